/- A part of the proof. -/
import Derived.Tactics
import Derived.Laws.AppendOwn
import Derived.KernelRfl
import Derived.Test.YtmbhpolhiblhoaaGreatDoorProg
set_option linter.all false
namespace Go.Rad
def bI : List Int := [0, 1, 56, 2, 57, 49, 28, 3, 61, 58, 42, 50, 38, 29, 17, 4, 62, 47, 59, 36, 45, 43, 51, 22, 53, 39, 33, 30, 24, 18, 12, 5, 63, 55, 48, 27, 60, 41, 37, 16, 46, 35, 44, 21, 52, 32, 23, 11, 54, 26, 40, 15, 34, 20, 31, 10, 25, 14, 19, 9, 13, 8, 7, 6]
def nI (g : Nat) : Option (List Int) := if g = 0 then some bI else none
end Go.Rad
namespace Go.Rad
open Go
inductive aa : Type where
 | bool (b : Bool)
 | int (k : IntKind) (n : Int)
 | str (s : ByteArray)
 | nil
 | ref (q : Bool) (cs : List aa)
 | sl (q full : Bool) (l : List (List aa))
 | fn (f : Nat) (cap : List aa)
 | nilfn
 | nilmap
 | agg (cs : List aa)
 | tup (vs : List aa)
 | loc (id g i off : Nat)
 | bx (id g off : Nat)
 | osl (id g off len : Nat)
 | map (id g : Nat)
 | opt (c : Bool) (v : aa)
 | undef
 deriving Inhabited
inductive bc : Type where
 | row (esz : Nat) (l : List (List aa))
 | box (cs : List aa)
 | mp (es : List (ByteArray × aa))
 | mpi (es : List (Int × aa))
 deriving Inhabited
abbrev Tm := List (Nat × aa)
abbrev Sto := List (Nat × Nat × bc)
def lk : Tm → Nat → aa
 | [], _ => .undef
 | (m, v) :: tm, n => if m = n then v else lk tm n
def put (d : Option Nat) (v : aa) (tm : Tm) : Tm :=
 match d with
 | some d => (d, v) :: tm
 | none => tm
def ak : Sto → Nat → Option (Nat × bc)
 | [], _ => none
 | (m, v) :: s, n => if m = n then some v else ak s n
def aF : Sto → Nat → (Nat × bc) → Sto
 | [], id, v => [(id, v)]
 | (i, x) :: s, id, v => if i = id then (id, v) :: s else if id < i then (id, v) :: (i, x) :: s else (i, x) :: aF s id v
def ca : Sto → Nat → Sto
 | [], _ => []
 | (i, x) :: s, id => if i = id then ca s id else (i, x) :: ca s id
theorem bD (s : Sto) (id : Nat) (v : Nat × bc) (j : Nat) : ak (aF s id v) j = if id = j then some v else ak s j := by
 induction s with
 | nil => simp [aF, ak]
 | cons x s ih =>
  obtain ⟨i, x⟩ := x
  simp only [aF]
  by_cases h1 : i = id
  ·subst h1; simp only [if_true, ak]; split <;> rfl
  ·simp only [h1, if_false]
   by_cases h2 : id < i
   ·simp only [h2, if_true, ak]
   ·simp only [h2, if_false, ak, ih]
    by_cases h3 : i = j
    ·subst h3; simp [Ne.symm h1]
    ·simp [h3]
theorem dq (s : Sto) (id j : Nat) : ak (ca s id) j = if id = j then none else ak s j := by
 induction s with
 | nil => simp [ca, ak]
 | cons x s ih =>
  obtain ⟨i, x⟩ := x
  simp only [ca]
  by_cases h1 : i = id
  ·subst h1; simp only [if_true, ih, ak]; split <;> rfl
  ·simp only [h1, if_false, ak, ih]
   by_cases h3 : i = j
   ·subst h3; simp [Ne.symm h1]
   ·simp [h3]
structure Hd where
 blk : Option Nat
 cap : Nat
 esz : Nat
structure Gh where
 F : Nat → Option Obj
 S : Nat → Prop
 L : Nat → Prop
 M : Nat → Nat → Option Hd
 N : Nat
 W0 : World
def Gh.ok (G : Gh) (q : Bool) (b : Nat) : Prop := G.S b ∨ (q = false ∧ G.L b)
def aa.ar : aa → Bool
 | .agg _ | .tup _ | .undef | .opt _ _ => false
 | _ => true
def ao : Nat := 140737488355328
theorem vH {n : Nat} (h : n ≤ ao) : n ≤ maxLen := Nat.le_trans h (by decide)
def fits (k : IntKind) (n : Int) : Prop := k.min ≤ n ∧ n ≤ k.max
inductive Rep (G : Gh) : Bool → aa → Value → Prop
 | bool {o b} : Rep G o (.bool b) (.bool b)
 | int {o k n} : fits k n → Rep G o (.int k n) (.int k n)
 | str {o s} : s.size ≤ maxLen → Rep G o (.str s) (.string s)
 | nil {o} : Rep G o .nil (.pointer none)
 | ref {o q cs b off c e fr} : G.ok q b → G.F b = some (.cells c e fr) → off + cs.length ≤ c.size →
   (∀ (j : Nat) (x : aa), cs[j]? = some x → x.ar = true) →
   (∀ (j : Nat) (x : aa), cs[j]? = some x → Rep G false x (c.getD (off + j) undef)) → Rep G o (.ref q cs) (.pointer (some ⟨b, off, none⟩))
 | slnil {o q full a cap} : (full = true → cap = 0) → Rep G o (.sl q full []) (.slice a 0 cap)
 | sl {o q full l cap b off c e fr esz} : l.length ≤ cap → (full = true → cap = l.length) → l.length ≤ maxLen → G.ok q b → G.F b = some (.cells c e fr) →
   off + l.length * esz ≤ c.size →
   (∀ (i : Nat) (x : List aa), l[i]? = some x → x.length = esz) →
   (∀ (i j : Nat) (x : List aa) (y : aa), l[i]? = some x → x[j]? = some y → y.ar = true) →
   (∀ (i j : Nat) (x : List aa) (y : aa), l[i]? = some x → x[j]? = some y → Rep G false y (c.getD (off + i * esz + j) undef)) →
   Rep G o (.sl q full l) (.slice (some ⟨b, off, none⟩) l.length cap)
 | fn {o f cap caps} : caps.size = cap.length → (∀ (j : Nat) (x : aa), cap[j]? = some x → Rep G o x (caps.getD j undef)) → Rep G o (.fn f cap) (.func (.func f) #[] caps)
 | nilfn {o} : Rep G o .nilfn .nilFunc
 | nilmap {o} : Rep G o .nilmap (.map none)
 | agg {o cs c} : c.size = cs.length → (∀ (j : Nat) (x : aa), cs[j]? = some x → x.ar = true) → (∀ (j : Nat) (x : aa), cs[j]? = some x → Rep G o x (c.getD j undef)) → Rep G o (.agg cs) (.agg c)
 | tup {o vs c} : c.size = vs.length → (∀ (j : Nat) (x : aa), vs[j]? = some x → Rep G o x (c.getD j undef)) → Rep G o (.tup vs) (.tuple c)
 | loc {id g i off b cap esz} : G.M id g = some ⟨some b, cap, esz⟩ → Rep G true (.loc id g i off) (.pointer (some ⟨b, i * esz + off, none⟩))
 | bx {id g off b cap esz} : G.M id g = some ⟨some b, cap, esz⟩ → Rep G true (.bx id g off) (.pointer (some ⟨b, off, none⟩))
 | osl {id g off len ob cap esz a} : G.M id g = some ⟨ob, cap, esz⟩ → off + len ≤ cap → len ≤ ao → (ob = none → cap = 0) →
   (∀ b, ob = some b → off < cap → a = some ⟨b, off * esz, none⟩) → (∀ b, ob = some b → off = 0 → a = some ⟨b, 0, none⟩) →
   Rep G true (.osl id g off len) (.slice a len (cap - off))
 | map {id g b cap esz} : G.M id g = some ⟨some b, cap, esz⟩ → Rep G true (.map id g) (.map (some b))
 | opt {o c v x} : (c = true → Rep G o v x) → Rep G o (.opt c v) x
 | undef {o x} : Rep G o .undef x
structure Ext (E G : Gh) : Prop where
 F : ∀ b o, E.F b = some o → G.F b = some o
 S : ∀ b, E.S b → G.S b
 S' : ∀ b, G.S b → E.S b ∨ E.F b = none
 L : ∀ b, G.L b ↔ E.L b
 M : ∀ i g h, E.M i g = some h → G.M i g = some h
 N : E.N ≤ G.N
 W0 : G.W0 = E.W0
theorem Ext.refl (E : Gh) : Ext E E := ⟨fun _ _ h => h, fun _ h => h, fun _ h => .inl h, fun _ => Iff.rfl, fun _ _ _ h => h, Nat.le_refl _, rfl⟩
theorem Ext.trans {E G H : Gh} (h : Ext E G) (k : Ext G H) : Ext E H where
 F b o x := k.F b o (h.F b o x)
 S b x := k.S b (h.S b x)
 S' b x := by
  rcases k.S' b x with y | y
  ·exact h.S' b y
  ·right
   cases hF : E.F b with
   | none => rfl
   | some o => rw [h.F b o hF] at y; cases y
 L b := (k.L b).trans (h.L b)
 M i g x y := k.M i g x (h.M i g x y)
 N := Nat.le_trans h.N k.N
 W0 := k.W0.trans h.W0
theorem Gh.ok.mono {E G : Gh} (hS : ∀ b, E.S b → G.S b) (hL : ∀ b, E.L b → G.L b) {q : Bool} {b : Nat} (x : E.ok q b) : G.ok q b := x.imp (hS b) fun ⟨a, c⟩ => ⟨a, hL b c⟩
structure uh (E G : Gh) : Prop where
 F : ∀ b o, E.F b = some o → G.F b = some o
 S : ∀ b, E.S b → G.S b
 L : ∀ b, E.L b → G.L b
 M : ∀ i g h, E.M i g = some h → G.M i g = some h
theorem Ext.toMono {E G : Gh} (h : Ext E G) : uh E G := ⟨h.F, h.S, fun b x => (h.L b).2 x, h.M⟩
theorem Rep.mono {E G : Gh} (h : uh E G) {o : Bool} {x : aa} {v : Value} (r : Rep E o x v) : Rep G o x v := by
 induction r with
 | bool => exact .bool
 | int h => exact .int h
 | str h => exact .str h
 | nil => exact .nil
 | ref a b c d _ ih => exact .ref (a.mono h.S h.L) (h.F _ _ b) c d ih
 | slnil a => exact .slnil a
 | sl a b c d e f g i _ ih => exact .sl a b c (d.mono h.S h.L) (h.F _ _ e) f g i ih
 | fn a _ ih => exact .fn a ih
 | nilfn => exact .nilfn
 | nilmap => exact .nilmap
 | agg a b _ ih => exact .agg a b ih
 | tup a _ ih => exact .tup a ih
 | loc a => exact .loc (h.M _ _ _ a)
 | bx a => exact .bx (h.M _ _ _ a)
 | osl a b c n d e => exact .osl (h.M _ _ _ a) b c n d e
 | map a => exact .map (h.M _ _ _ a)
 | opt _ ih => exact .opt ih
 | undef => exact .undef
theorem Rep.up {G : Gh} {o : Bool} {x : aa} {v : Value} (r : Rep G o x v) : Rep G true x v := by
 induction r with
 | bool => exact .bool
 | int h => exact .int h
 | str h => exact .str h
 | nil => exact .nil
 | ref a b c d e _ => exact .ref a b c d e
 | slnil a => exact .slnil a
 | sl a b c d e f g i j _ => exact .sl a b c d e f g i j
 | fn a _ ih => exact .fn a ih
 | nilfn => exact .nilfn
 | nilmap => exact .nilmap
 | agg a b _ ih => exact .agg a b ih
 | tup a _ ih => exact .tup a ih
 | loc a => exact .loc a
 | bx a => exact .bx a
 | osl a b c n d e => exact .osl a b c n d e
 | map a => exact .map a
 | opt _ ih => exact .opt ih
 | undef => exact .undef
theorem Rep.kl {G : Gh} {o : Bool} {x : aa} {v : Value} (r : Rep G o x v) (h : x.ar = true) : v.oneCell' = true := by
 cases r <;> first | rfl | (simp [aa.ar] at h)
def aa.bT : aa → Bool
 | .bool _ | .int _ _ | .str _ | .nil | .ref _ _ | .sl _ _ _ | .nilfn | .nilmap | .fn _ [] => true
 | _ => false
theorem Rep.down {G : Gh} {o : Bool} {x : aa} {v : Value} (r : Rep G o x v) (hz : x.bT = true) : Rep G false x v := by
 cases r with
 | bool => exact .bool
 | int h => exact .int h
 | str h => exact .str h
 | nil => exact .nil
 | ref a b c d e => exact .ref a b c d e
 | slnil a => exact .slnil a
 | sl a b c d e f g i j => exact .sl a b c d e f g i j
 | @fn _ f cap caps a b =>
  cases cap with
  | nil => exact .fn a (fun j x hx => by simp at hx)
  | cons y ys => simp [aa.bT] at hz
 | nilfn => exact .nilfn
 | nilmap => exact .nilmap
 | _ => simp [aa.bT] at hz
def fi (G : Gh) (tm : Tm) (a : Array Value) : Prop := ∀ t, Rep G true (lk tm t) (a.getD t undef)
structure Kept (w w' : World) : Prop where
 os : w'.os = w.os
 out : w'.output = w.output
theorem Kept.refl (w : World) : Kept w w := ⟨rfl, rfl⟩
theorem Kept.trans {w w' w'' : World} (h : Kept w w') (k : Kept w' w'') : Kept w w'' := ⟨k.os.trans h.os, k.out.trans h.out⟩
abbrev fP (l : List Int) : List aa := l.map fun n => .int .u8 n
structure WOk (G : Gh) (w : World) : Prop where
 K : Kept G.W0 w
 F : ∀ b o, G.F b = some o → w.heap[b]? = some o
 M : ∀ i g h b, G.M i g = some h → h.blk = some b → b < w.heap.size
 N : ∀ i g, G.N ≤ g → G.M i g = none
 T : ∀ (g : Nat) (l : List Int), nI g = some l → Rep G true (.ref true (fP l)) (.pointer (some ⟨g, 0, none⟩))
def jQ (w : World) (b : Nat) (c : Array Value) (e : TypeId) : Prop := ∃ fr : Nat × Nat, w.heap[b]? = some (.cells c e fr) ∧ (fr.2 = 0 ∨ c.size ≤ fr.1)
def bW (G : Gh) (w : World) (id g : Nat) : bc → Prop
 | .row esz l => ∃ ob cap, G.M id g = some ⟨ob, cap, esz⟩ ∧ l.length ≤ cap ∧ l.length ≤ ao ∧ 0 < esz ∧ (∀ (i : Nat) (x : List aa), l[i]? = some x → x.length = esz) ∧
   (∀ (i j : Nat) (x : List aa) (y : aa), l[i]? = some x → x[j]? = some y → y.ar = true) ∧ (ob = none → cap = 0) ∧
   ∀ b, ob = some b → G.F b = none ∧ cap ≤ maxLen ∧ ∃ c e, jQ w b c e ∧ c.size = cap * esz ∧
     ∀ (i j : Nat) (x : List aa) (y : aa), l[i]? = some x → x[j]? = some y → Rep G false y (c.getD (i * esz + j) undef)
 | .box cs => ∃ b cap esz, G.M id g = some ⟨some b, cap, esz⟩ ∧ G.F b = none ∧ ∃ c e, w.heap[b]? = some (.cells c e (0, 0)) ∧ c.size = cs.length ∧
   (∀ (j : Nat) (x : aa), cs[j]? = some x → x.ar = true) ∧ ∀ (j : Nat) (x : aa), cs[j]? = some x → Rep G true x (c.getD j undef)
 | .mp es => ∃ b cap esz, G.M id g = some ⟨some b, cap, esz⟩ ∧ G.F b = none ∧ ∃ me clock, w.heap[b]? = some (.map me clock) ∧ me.size = es.length ∧ es.length ≤ ao ∧
   ∀ (j : Nat) (x : ByteArray × aa), es[j]? = some x → ∃ m : MapEntry, me[j]? = some m ∧ m.key = .string x.1 ∧ x.2.ar = true ∧ Rep G false x.2 m.val
 | .mpi es => ∃ b cap esz, G.M id g = some ⟨some b, cap, esz⟩ ∧ G.F b = none ∧ ∃ me clock, w.heap[b]? = some (.map me clock) ∧ me.size = es.length ∧ es.length ≤ ao ∧
   ∀ (j : Nat) (x : Int × aa), es[j]? = some x → ∃ m : MapEntry, me[j]? = some m ∧ m.key = .int .i64 x.1 ∧ x.2.ar = true ∧ Rep G false x.2 m.val
def au (G : Gh) (id g : Nat) : Option Nat := (G.M id g).bind (·.blk)
structure an (G : Gh) (w : World) (s : Sto) : Prop where
 obj : ∀ id g o, ak s id = some (g, o) → bW G w id g o
 apart : ∀ id id' g g' o o', ak s id = some (g, o) → ak s id' = some (g', o') → id ≠ id' → ∀ b, au G id g = some b → au G id' g' ≠ some b
end Go.Rad
namespace Go.Rad
open Go
inductive Ty : Type where
 | int (k : IntKind)
 | bool
 | string
 | ptr
 | slice (e : Nat)
 | array (n e : Nat)
 | struct (fs : List (Nat × Nat))
 | map (k e : Nat)
 | func
 | other
 deriving DecidableEq, Inhabited
structure TI where
 ty : Ty
 ag : Bool
 sz : Nat
 by8 : Nat
 zero : List aa
 deriving Inhabited
abbrev Lay := Nat → TI
def bf : Value → aa
 | .bool b => .bool b
 | .int k n => .int k n
 | .string s => .str s
 | .pointer none => .nil
 | .slice none 0 0 => .sl true true []
 | .map none => .nilmap
 | .nilFunc => .nilfn
 | _ => .undef
def ofConst : Value → aa
 | .agg cs => .agg (cs.toList.map bf)
 | v => bf v
def ev (tm : Tm) : Operand → aa
 | .tmp t => lk tm t
 | .const v => ofConst v
 | .func f => .fn f []
 | .global g => match nI g with | some l => .ref true (fP l) | none => .undef
def cellsOf : aa → List aa
 | .agg cs => cs
 | v => [v]
def aa.aB : aa → Bool
 | .agg _ => true
 | v => v.ar
def mkv (ti : TI) (cs : List aa) : aa := if ti.ag then .agg (cs.take ti.sz) else cs.headD .undef
def bL (cs : List aa) (off : Nat) (vs : List aa) : List aa := cs.take off ++ vs ++ cs.drop (off + vs.length)
def kW (ti : TI) (f : Nat) : Option (Nat × Nat) :=
 match ti.ty with
 | .struct fs => fs[f]?
 | _ => none
def bP (L : Lay) (ti : TI) (cs : List aa) : List (Nat × aa) → Option (List aa)
 | [] => some cs
 | (i, v) :: rest =>
  match (match ti.ty with
   | .struct fs => (fs[i]?).map fun f => (f.1, (L f.2).sz)
   | .array _ e => some (i * (L e).sz, (L e).sz)
   | .slice e => some (i * (L e).sz, (L e).sz)
   | _ => none) with
  | some (off, sz) => if (cellsOf v).length = sz ∧ off + sz ≤ cs.length ∧ v.aB = true then bP L ti (bL cs off (cellsOf v)) rest else none
  | none => none
def gS (n : Int) : Prop := -9223372036854775808 ≤ n ∧ n ≤ 9223372036854775807
def bo (k : IntKind) (n : Int) (T : aa → Prop) : Prop :=
 match k with
 | .i64 => gS n ∧ T (.int .i64 n)
 | k => T (.int k (k.wrap n))
def bitsOf (op : BinOp) (k : IntKind) (x y : Int) : Int :=
 let a := BitVec.ofInt k.bits x
 let b := BitVec.ofInt k.bits y
 match op with
 | .and => k.wrap (a &&& b).toNat
 | .or => k.wrap (a ||| b).toNat
 | .xor => k.wrap (a ^^^ b).toNat
 | _ => k.wrap (a &&& ~~~b).toNat
def bu (op : BinOp) (k : IntKind) (a b : Int) (T : aa → Prop) : Prop :=
 match op with
 | .add => bo k (a + b) T
 | .sub => bo k (a - b) T
 | .mul => bo k (a * b) T
 | .quo => b ≠ 0 ∧ bo k (a.tdiv b) T
 | .rem => b ≠ 0 ∧ T (.int k (a.tmod b))
 | .and | .or | .xor | .andNot => T (.int k (bitsOf op k a b))
 | .eql => T (.bool (decide (a = b)))
 | .neq => T (.bool (!decide (a = b)))
 | .lss => T (.bool (decide (a < b)))
 | .leq => T (.bool (decide (a ≤ b)))
 | .gtr => T (.bool (decide (b < a)))
 | .geq => T (.bool (decide (b ≤ a)))
 | _ => False
def dc (op : BinOp) (k : IntKind) (a b : Int) (T : aa → Prop) : Prop :=
 match op with
 | .shl => 0 ≤ b ∧ T (.int k (k.wrap (a * 2 ^ min b.toNat k.bits)))
 | .shr => 0 ≤ b ∧ T (.int k (a.fdiv (2 ^ min b.toNat k.bits)))
 | _ => False
def l9 (op : BinOp) (a b : ByteArray) (T : aa → Prop) : Prop :=
 match op with
 | .add => a.size + b.size ≤ maxLen ∧ T (.str (a ++ b))
 | .eql => T (.bool (decide (a = b)))
 | .neq => T (.bool (!decide (a = b)))
 | .lss => T (.bool (Op.bytesLess a.toList b.toList))
 | .gtr => T (.bool (!(Op.bytesLess a.toList b.toList || decide (a = b))))
 | .leq => T (.bool (Op.bytesLess a.toList b.toList || decide (a = b)))
 | .geq => T (.bool (!Op.bytesLess a.toList b.toList))
 | _ => False
def bj (k : IntKind) : List aa → Option (List Int)
 | [] => some []
 | .int k' n :: r => if k' = k then (bj k r).map (n :: ·) else none
 | _ :: _ => none
def kA (L : Lay) (k : IntKind) : List (Nat × Nat) → Nat → Bool
 | [], _ => true
 | (o, ft) :: fs, i => Nat.beq o i && decide ((L ft).ty = .int k) && Nat.beq (L ft).sz 1 && !(L ft).ag && kA L k fs (i + 1)
def vT (L : Lay) (fs : List (Nat × Nat)) : Ty → Option IntKind
 | .int k => if kA L k fs 0 = true then some k else none
 | _ => none
def fv (L : Lay) (fs : List (Nat × Nat)) : Option IntKind := match fs with
 | (_, ft) :: _ => vT L fs (L ft).ty
 | [] => none
def dH (L : Lay) (xt : Nat) (xs ys : List aa) (T : Bool → Prop) : Prop :=
 match (L xt).ty with
 | .struct fs =>
  match fv L fs with
  | some k => ∃ a b, bj k xs = some a ∧ bj k ys = some b ∧ a.length = fs.length ∧ b.length = fs.length ∧ T (decide (a = b))
  | none => False
 | .array n e =>
  match (L e).ty with
  | .int k => ∃ a b, bj k xs = some a ∧ bj k ys = some b ∧ a.length = n ∧ b.length = n ∧ n ≤ 1000 ∧ (L e).sz = 1 ∧ (L e).ag = false ∧ T (decide (a = b))
  | _ => False
 | _ => False
def ct : Operand → Bool
 | .const (.slice none _ _) => true
 | _ => false
def lZ (L : Lay) (xt : Nat) (x : aa) (T : Bool → Prop) : Prop :=
 (∃ e, (L xt).ty = .slice e) ∧
 match x with
 | .sl _ _ l => ∀ b : Bool, (b = true → l = []) → T b
 | .osl _ _ _ len => ∀ b : Bool, (b = true → len = 0) → T b
 | _ => False
def bh (L : Lay) (op : BinOp) (xt : Nat) (x y : aa) (T : aa → Prop) : Prop :=
 match op, x, y with
 | .shl, .int k a, .int _ b => dc .shl k a b T
 | .shr, .int k a, .int _ b => dc .shr k a b T
 | op, .int k a, .int k' b => k = k' ∧ bu op k a b T
 | op, .str a, .str b => l9 op a b T
 | .eql, .bool a, .bool b => (L xt).ty = .bool ∧ T (.bool (a == b))
 | .neq, .bool a, .bool b => (L xt).ty = .bool ∧ T (.bool (!(a == b)))
 | .eql, .agg a, .agg b => dH L xt a b fun r => T (.bool r)
 | .neq, .agg a, .agg b => dH L xt a b fun r => T (.bool !r)
 | _, _, _ => False
def oN (op : UnOp) (x : aa) (T : aa → Prop) : Prop :=
 match op, x with
 | .not, .bool b => T (.bool !b)
 | .neg, .int k n => bo k (0 - n) T
 | .xor, .int k n => T (.int k (bitsOf .xor k (if k.signed then -1 else k.max) n))
 | _, _ => False
def c8 : aa → aa
 | .sl q _ l => .sl q false l
 | v => v
def ez : aa → aa
 | .agg cs => .agg (cs.map c8)
 | v => c8 v
def bM (L : Lay) (t : Nat) (x : aa) (sto : Sto) (T : aa → Prop) : Prop :=
 match x with
 | .bx id g off =>
  match ak sto id with
  | some (g', .box cs) => g' = g ∧ off + (L t).sz ≤ cs.length ∧ 0 < (L t).sz ∧ T (mkv (L t) (cs.drop off))
  | _ => False
 | .loc id g i off =>
  match ak sto id with
  | some (g', .row esz l) => g' = g ∧ i < l.length ∧ off + (L t).sz ≤ esz ∧ 0 < (L t).sz ∧ ∀ x, l[i]? = some x → T (mkv (L t) (x.drop off))
  | _ => False
 | .ref _ cs => (L t).sz ≤ cs.length ∧ 0 < (L t).sz ∧ T (mkv (L t) cs)
 | _ => False
def cH (L : Lay) (t : Nat) (x v : aa) (sto : Sto) (T : Sto → Prop) : Prop :=
 v.aB = true ∧ (cellsOf v).length = (L t).sz ∧
 match x with
 | .bx id g off =>
  match ak sto id with
  | some (g', .box cs) => g' = g ∧ off + (L t).sz ≤ cs.length ∧ T (aF sto id (g, .box (bL cs off (cellsOf v))))
  | _ => False
 | .loc id g i off =>
  match ak sto id with
  | some (g', .row esz l) => g' = g ∧ i < l.length ∧ off + (L t).sz ≤ esz ∧ (cellsOf v).all aa.bT = true ∧ ∀ x, l[i]? = some x → T (aF sto id (g, .row esz (l.set i (bL x off (cellsOf v)))))
  | _ => False
 | _ => False
def cj (L : Lay) (t : Nat) (x v : aa) (sto : Sto) (T : Sto → Prop) : Prop :=
 match x with
 | .loc id g i off => cH L t (.loc id g i off) (ez v) sto T
 | x => cH L t x v sto T
def cV (ti : TI) (x : aa) (f : Nat) (T : aa → Prop) : Prop :=
 match kW ti f with
 | some (o, _) =>
  match x with
  | .bx id g off => T (.bx id g (off + o))
  | .loc id g i off => T (.loc id g i (off + o))
  | .ref q cs => o ≤ cs.length ∧ T (.ref q (cs.drop o))
  | _ => False
 | none => False
def aE (L : Lay) (t : Nat) (x i : aa) (sto : Sto) (T : aa → Prop) : Prop :=
 match i with
 | .int _ n =>
  match (L t).ty with
  | .slice e =>
   match x with
   | .osl id g off len =>
    match ak sto id with
    | some (g', .row esz _) => g' = g ∧ esz = (L e).sz ∧ (0 ≤ n ∧ n < len) ∧ T (.loc id g (off + n.toNat) 0)
    | _ => False
   | .sl q _ l => (0 ≤ n ∧ n < l.length) ∧ ∀ x, l[n.toNat]? = some x → x.length = (L e).sz ∧ T (.ref q x)
   | _ => False
  | .array m e =>
   (0 ≤ n ∧ n < m) ∧
   match x with
   | .bx id g off => T (.bx id g (off + n.toNat * (L e).sz))
   | .loc id g j off => T (.loc id g j (off + n.toNat * (L e).sz))
   | .ref q cs => n.toNat * (L e).sz ≤ cs.length ∧ T (.ref q (cs.drop (n.toNat * (L e).sz)))
   | _ => False
  | _ => False
 | _ => False
def kB (s : ByteArray) (n : Nat) : Int := ((s.data.toList[n]?).getD 0).toNat
def db (L : Lay) (t : Nat) (x i : aa) (T : aa → Prop) : Prop :=
 match i with
 | .int _ n =>
  match (L t).ty, x with
  | .string, .str s => (0 ≤ n ∧ n < s.size) ∧ T (.int .u8 (kB s n.toNat))
  | .array m e, .agg cs => (0 ≤ n ∧ n < m) ∧ n.toNat * (L e).sz + (L e).sz ≤ cs.length ∧ 0 < (L e).sz ∧ T (mkv (L e) (cs.drop (n.toNat * (L e).sz)))
  | _, _ => False
 | _ => False
def ch (L : Lay) (t : Nat) (x : aa) (f : Nat) (T : aa → Prop) : Prop :=
 match kW (L t) f, x with
 | some (o, ft), .agg cs => o + (L ft).sz ≤ cs.length ∧ 0 < (L ft).sz ∧ T (mkv (L ft) (cs.drop o))
 | _, _ => False
def bV (x : aa) (i : Nat) (T : aa → Prop) : Prop :=
 match x with
 | .tup vs => ∃ v, vs[i]? = some v ∧ T v
 | _ => False
def eg (L : Lay) (t : Nat) (x : aa) (sto : Sto) (T : aa → Prop) : Prop :=
 match (L t).ty, x with
 | .string, .str s => T (.int .i64 s.size)
 | .slice _, .sl _ _ l => T (.int .i64 l.length)
 | .slice _, .osl _ _ _ len => T (.int .i64 len)
 | .array n _, _ => n < 4294967296 ∧ T (.int .i64 n)
 | .map _ _, .nilmap => T (.int .i64 0)
 | .map _ _, .map id g =>
  match ak sto id with
  | some (g', .mp es) => g' = g ∧ T (.int .i64 es.length)
  | some (g', .mpi es) => g' = g ∧ T (.int .i64 es.length)
  | _ => False
 | _, _ => False
def cE (x : aa) (sto : Sto) : Option (List (List aa)) :=
 match x with
 | .sl _ _ l => some l
 | .osl id g off len =>
  match ak sto id with
  | some (g', .row _ l) => if g' = g ∧ off + len ≤ l.length then some ((l.drop off).take len) else none
  | _ => none
 | _ => none
def fZ (L : Lay) (d : Nat) (t t2 : Nat) (s x : aa) (sto : Sto) (T : aa → Sto → Prop) : Prop :=
 t2 = t ∧
 match (L t).ty with
 | .slice e =>
  ∃ m, cE x sto = some m ∧ 0 < (L e).sz ∧ (∀ y ∈ m, y.length = (L e).sz ∧ y.all aa.bT = true) ∧
  match s with
  | .osl id g off len =>
   match ak sto id with
   | some (g', .row esz l) => g' = g ∧ off = 0 ∧ len = l.length ∧ esz = (L e).sz ∧ (l.length + m.length) * (L e).by8 ≤ ao ∧ l.length + m.length ≤ ao ∧
     ∀ h, T (.osl id h 0 (l.length + m.length)) (aF sto id (h, .row esz (l ++ m)))
   | _ => False
  | .sl _ full l => full = true ∧ (∀ y ∈ l, y.length = (L e).sz ∧ y.all aa.bT = true) ∧ (l.length + m.length) * (L e).by8 ≤ ao ∧ l.length + m.length ≤ ao ∧
        (m ≠ [] ∨ l = []) ∧ ∀ h, T (.osl d h 0 (l.length + m.length)) (aF sto d (h, .row (L e).sz (l ++ m)))
  | _ => False
 | _ => False
def iI (L : Lay) (d t : Nat) (x y : aa) (sto : Sto) (T : aa → Sto → Prop) : Prop :=
 match (L t).ty, x, y with
 | .slice e, .int .i64 n, .int .i64 c => 0 ≤ n ∧ n = c ∧ n * (L e).by8 ≤ ao ∧ n ≤ ao ∧ 0 < (L e).sz ∧
   ∀ h, T (.osl d h 0 n.toNat) (aF sto d (h, .row (L e).sz ((List.replicate n.toNat (L e).zero).map (List.map c8))))
 | _, _, _ => False
def chunks (sz : Nat) : Nat → List aa → List (List aa)
 | 0, _ => []
 | n + 1, cs => cs.take sz :: chunks sz n (cs.drop sz)
def bF (L : Lay) (d t n : Nat) (parts : List (Nat × aa)) (sto : Sto) (T : aa → Sto → Prop) : Prop :=
 match (L t).ty with
 | .slice e => 0 < (L e).sz ∧ n * (L e).sz ≤ 1000000 ∧ ∃ cs, bP L (L t) (List.replicate n (L e).zero).flatten parts = some cs ∧ cs.all aa.bT = true ∧
   ∀ h, T (.osl d h 0 n) (aF sto d (h, .row (L e).sz ((chunks (L e).sz n cs).map (List.map c8))))
 | _ => False
def aX (x : Option aa) (dflt : Nat) (P : Nat → Prop) : Prop :=
 match x with
 | none => P dflt
 | some (.int _ n) => 0 ≤ n ∧ P n.toNat
 | _ => False
def eZ (mx : Option aa) (full : Bool) (h m n : Nat) : Bool :=
 match mx with
 | none => full && decide (h = n)
 | some _ => decide (m = h)
def bY (L : Lay) (t : Nat) (x : aa) (lo hi mx : Option aa) (sto : Sto) (T : aa → Prop) : Prop :=
 match (L t).ty, x with
 | .string, .str s => mx.isNone = true ∧ aX lo 0 fun l => aX hi s.size fun h => (l ≤ h ∧ h ≤ s.size) ∧ T (.str (s.extract l h))
 | .slice e, .sl q full es => aX lo 0 fun l => aX hi es.length fun h => aX mx es.length fun m =>
   (l ≤ h ∧ h ≤ m ∧ m ≤ es.length) ∧ (l = 0 ∨ ∀ y ∈ es, y.length = (L e).sz) ∧ T (.sl q (eZ mx full h m es.length) ((es.take h).drop l))
 | .slice e, .osl id g off len => mx.isNone = true ∧ (∃ g' l, ak sto id = some (g', .row (L e).sz l) ∧ g' = g) ∧ aX lo 0 fun l => aX hi len fun h => (l ≤ h ∧ h ≤ len) ∧ T (.osl id g (off + l) (h - l))
 | _, _ => False
def iE : List (List aa) → Option (List UInt8)
 | [] => some []
 | [.int .u8 n] :: r => (iE r).map (UInt8.ofNat n.toNat :: ·)
 | _ => none
def cU (L : Lay) (s t : Nat) (x : aa) (T : aa → Prop) : Prop :=
 (L s).ty ≠ .other ∧
 match (L t).ty, x with
 | .int k, .int _ n => T (.int k (k.wrap n))
 | .string, .str s' => (L s).ty = .string ∧ T (.str s')
 | .string, .sl _ _ l => (∃ e, (L s).ty = .slice e ∧ (L e).ty = .int .u8) ∧ ∃ bs, iE l = some bs ∧ T (.str ⟨bs.toArray⟩)
 | _, _ => False
def er {κ : Type} [DecidableEq κ] (es : List (κ × aa)) (k : κ) : Option aa := (es.find? fun e => decide (e.1 = k)).map (·.2)
def eQ {κ : Type} [DecidableEq κ] (es : List (κ × aa)) (k : κ) (v : aa) : List (κ × aa) :=
 match es with
 | [] => [(k, v)]
 | e :: r => if e.1 = k then (k, v) :: r else e :: eQ r k v
def j7 {κ : Type} [DecidableEq κ] (es : List (κ × aa)) (k : κ) : List (κ × aa) :=
 match es with
 | [] => []
 | e :: r => if e.1 = k then r else e :: j7 r k
def cO (L : Lay) (t : Nat) (m k : aa) (ok : Bool) (sto : Sto) (T : aa → Prop) : Prop :=
 match (L t).ty with
 | .map kt et =>
  match m, k with
  | .map id g, .str key =>
   (L kt).ty = .string ∧ (L et).sz = 1 ∧ (L et).ag = false ∧
   match ak sto id with
   | some (g', .mp es) => g' = g ∧ T (match er es key with
     | some v => if ok then .tup [v, .bool true] else v
     | none => if ok then .tup [(L et).zero.headD .undef, .bool false] else (L et).zero.headD .undef)
   | _ => False
  | .map id g, .int .i64 key =>
   (L kt).ty = .int .i64 ∧ (L et).sz = 1 ∧ (L et).ag = false ∧
   match ak sto id with
   | some (g', .mpi es) => g' = g ∧ T (match er es key with
     | some v => if ok then .tup [v, .bool true] else v
     | none => if ok then .tup [(L et).zero.headD .undef, .bool false] else (L et).zero.headD .undef)
   | _ => False
  | _, _ => False
 | _ => False
def cn (L : Lay) (t : Nat) (m k v : aa) (sto : Sto) (T : Sto → Prop) : Prop :=
 match (L t).ty with
 | .map kt et =>
  match m, k with
  | .map id g, .str key =>
   (L kt).ty = .string ∧ (L et).sz = 1 ∧ (L et).ag = false ∧ v.bT = true ∧
   match ak sto id with
   | some (g', .mp es) => g' = g ∧ es.length + 1 ≤ ao ∧ T (aF sto id (g, .mp (eQ es key v)))
   | _ => False
  | .map id g, .int .i64 key =>
   (L kt).ty = .int .i64 ∧ (L et).sz = 1 ∧ (L et).ag = false ∧ v.bT = true ∧
   match ak sto id with
   | some (g', .mpi es) => g' = g ∧ es.length + 1 ≤ ao ∧ T (aF sto id (g, .mpi (eQ es key v)))
   | _ => False
  | _, _ => False
 | _ => False
def bE (L : Lay) (d : Nat) (b : Builtin) (ts : List Nat) (xs : List aa) (sto : Sto) (T : aa → Sto → Prop) : Prop :=
 match b, ts, xs with
 | .len, [t], [x] => eg L t x sto fun r => T r sto
 | .append, [t, t2], [s, x] => fZ L d t t2 s x sto T
 | .max, _, [.int k a, .int k' b] => k = k' ∧ T (.int k (max a b)) sto
 | .min, _, [.int k a, .int k' b] => k = k' ∧ T (.int k (min a b)) sto
 | _, _, _ => False
def aO (L : Lay) (tm : Tm) (sto : Sto) (d : Nat) (T : aa → Sto → Prop) : Op → Prop
 | .move x | .assign x => T (ev tm x) sto
 | .pick c a b =>
  match ev tm c with
  | .bool x => (x = true → T (ev tm a) sto) ∧ (x = false → T (ev tm b) sto)
  | _ => False
 | .alloc t => 0 < (L t).sz ∧ ∀ h, T (.bx d h 0) (aF sto d (h, .box (L t).zero))
 | .box t x => (ev tm x).aB = true ∧ (cellsOf (ev tm x)).length = (L t).sz ∧ 0 < (L t).sz ∧ ∀ h, T (.bx d h 0) (aF sto d (h, .box (cellsOf (ev tm x))))
 | .build t parts => (L t).ag = true ∧ ∃ cs, bP L (L t) (L t).zero (parts.toList.map fun p => (p.1, ev tm p.2)) = some cs ∧ T (.agg cs) sto
 | .buildSlice t n parts => bF L d t n (parts.toList.map fun p => (p.1, ev tm p.2)) sto T
 | .load t a => bM L t (ev tm a) sto fun r => T r sto
 | .store t a x => cj L t (ev tm a) (ev tm x) sto fun s => T .undef s
 | .nilCheck x =>
  match ev tm x with
  | .bx id g off => T (.bx id g off) sto
  | .loc id g i off => T (.loc id g i off) sto
  | .ref q cs => T (.ref q cs) sto
  | .fn f cap => T (.fn f cap) sto
  | _ => False
 | .binOp op xt x y _ =>
  if ct y then
   match op with
   | .eql => lZ L xt (ev tm x) fun b => T (.bool b) sto
   | .neq => lZ L xt (ev tm x) fun b => T (.bool !b) sto
   | _ => False
  else bh L op xt (ev tm x) (ev tm y) fun r => T r sto
 | .unOp op _ x => oN op (ev tm x) fun r => T r sto
 | .convert s t x => cU L s t (ev tm x) fun r => T r sto
 | .makeFunc (.func f) first cap => first = #[] ∧ T (.fn f (cap.toList.map (ev tm))) sto
 | .makeMap t none => (∃ k e, (L t).ty = .map k e) ∧ ∀ h, T (.map d h) (aF sto d (h, .mp []))
 | .makeSlice t l c => iI L d t (ev tm l) (ev tm c) sto T
 | .slice t x lo hi mx => (mx.isSome = true → hi.isSome = true) ∧ bY L t (ev tm x) (lo.map (ev tm)) (hi.map (ev tm)) (mx.map (ev tm)) sto fun r => T r sto
 | .fieldAddr t x f => cV (L t) (ev tm x) f fun r => T r sto
 | .field t x f => ch L t (ev tm x) f fun r => T r sto
 | .indexAddr t x i => aE L t (ev tm x) (ev tm i) sto fun r => T r sto
 | .index t x i => db L t (ev tm x) (ev tm i) fun r => T r sto
 | .lookup t m k ok => cO L t (ev tm m) (ev tm k) ok sto fun r => T r sto
 | .mapUpdate t m k x => cn L t (ev tm m) (ev tm k) (ez (ev tm x)) sto fun s => T .undef s
 | .extract x i => bV (ev tm x) i fun r => T r sto
 | .call ⟨.builtin b, args, ts⟩ => bE L d b ts.toList (args.toList.map (ev tm)) sto T
 | _ => False
end Go.Rad
namespace Go.Rad
open Go
def lH : aa → Value → Bool
 | .bool false, .bool false => true
 | .int k 0, .int k' 0 => k == k'
 | .str s, .string s' => s.size == 0 && s'.size == 0
 | .nil, .pointer none => true
 | .sl true true [], .slice none 0 0 => true
 | .nilfn, .nilFunc => true
 | .nilmap, .map none => true
 | _, _ => false
def cQ : List aa → List Value → Bool
 | [], [] => true
 | x :: xs, v :: vs => lH x v && cQ xs vs
 | _, _ => false
def ba (L : Lay) : List (Nat × Nat) → List Field → Bool
 | [], [] => true
 | (o, t) :: fs, f :: gs => f.offset == o && f.type == t && decide (0 < (L t).sz) && (L t).ty != .other && ba L fs gs
 | _, _ => false
def bN (L : Lay) : Ty → TypeDesc → Bool
 | .int k, .int k' => k == k'
 | .bool, .bool => true
 | .string, .string => true
 | .ptr, .pointer _ => true
 | .slice e, .slice e' => e == e' && (L e).ty != .other
 | .array n e, .array n' e' => n == n' && e == e' && (L e).ty != .other
 | .struct fs, .struct gs => ba L fs gs.toList
 | .map k e, .map k' e' => k == k' && e == e' && (L k).ty != .other && (L e).ty != .other
 | .func, .func _ _ _ => true
 | _, _ => false
def nP : TypeDesc → Bool
 | .struct _ | .array _ _ => true
 | _ => false
def Al : List aa → Value → Bool
 | [x], v => lH x v
 | _, _ => false
def zk (P : Program) (L : Lay) (t : Nat) : TypeDesc → Bool
 | .struct gs => match (L t).ty with
  | .struct fs => match fv L fs with
   | some _ => !P.stoodInHeld t && !P.eqGuardType P.depth t && gs.toList.all fun f => f.name != "_"
   | none => true
  | _ => true
 | _ => true
def DP (P : Program) (L : Lay) (t : Nat) : Bool :=
 (L t).ty == .other ||
 match P.info? t, P.underlying t with
 | some i, some d => zk P L t d && bN L (L t).ty d && i.size == (L t).sz && i.bytes == (L t).by8 && nP d == (L t).ag &&
   (match i.zero with | some z => cQ (L t).zero z.cells.toList && ((L t).ag || Al (L t).zero z) | none => false) && (L t).zero.length == (L t).sz
 | _, _ => false
def sO (tbl : List TI) : Lay := fun t => tbl.getD t ⟨.other, false, 0, 0, []⟩
def LOk (P : Program) (L : Lay) : Prop := ∀ t, DP P L t = true
theorem L2 (P : Program) (tbl : List TI) (h : (List.range tbl.length).all (DP P (sO tbl)) = true) : LOk P (sO tbl) := by
 intro t
 by_cases ht : t < tbl.length
 ·exact List.all_eq_true.1 h t (List.mem_range.2 ht)
 ·have : sO tbl t = ⟨.other, false, 0, 0, []⟩ := by simp [sO, List.getD, List.getElem?_eq_none (Nat.le_of_not_lt ht)]
  simp [DP, this]
section
variable {P : Program} {L : Lay}
structure cI (P : Program) (L : Lay) (t : Nat) (i : TypeInfo) (d : TypeDesc) (z : Value) : Prop where
 info : P.info? t = some i
 und : P.underlying t = some d
 desc : bN L (L t).ty d = true
 size : i.size = (L t).sz
 bytes : i.bytes = (L t).by8
 agg : nP d = (L t).ag
 zero : i.zero = some z
 zeros : cQ (L t).zero z.cells.toList = true
 one : (L t).ag = true ∨ Al (L t).zero z = true
 zlen : (L t).zero.length = (L t).sz
 eqs : zk P L t d = true
theorem LOk.known (h : LOk P L) {t : Nat} (ht : (L t).ty ≠ .other) : ∃ i d z, cI P L t i d z := by
 have := h t
 unfold DP at this
 simp only [Bool.or_eq_true, beq_iff_eq, ht, false_or] at this
 split at this
 ·rename_i i d hi hd
  simp only [Bool.and_eq_true, beq_iff_eq] at this
  obtain ⟨⟨⟨⟨⟨⟨h0, h1⟩, h2⟩, h3⟩, h4⟩, h5⟩, h6⟩ := this
  split at h5
  ·rename_i z hz
   simp only [Bool.and_eq_true, Bool.or_eq_true] at h5
   exact ⟨i, d, z, hi, hd, h1, h2, h3, h4, hz, h5.1, h5.2, h6, h0⟩
  ·cases h5
 ·cases this
theorem eo : ∀ (xs : List aa) (vs : List Value), cQ xs vs = true → xs.length = vs.length
 | [], [], _ => rfl
 | [], _ :: _, h => by simp [cQ] at h
 | _ :: _, [], h => by simp [cQ] at h
 | x :: xs, v :: vs, h => by
  simp only [cQ, Bool.and_eq_true] at h
  simp [eo xs vs h.2]
theorem cP {G : Gh} {x : aa} {v : Value} (h : lH x v = true) : x.ar = true ∧ x.bT = true ∧ Rep G false x v := by
 unfold lH at h
 split at h <;> first
  | (simp at h; done)
  | skip
 ·exact ⟨rfl, rfl, .bool⟩
 ·simp only [beq_iff_eq] at h; subst h
  refine ⟨rfl, rfl, .int ?_⟩
  constructor <;> (rename_i k; cases k <;> decide)
 ·simp only [Bool.and_eq_true, beq_iff_eq] at h
  rename_i s s'
  have e1 : s = ByteArray.empty := ByteArray.ext (Array.eq_empty_of_size_eq_zero h.1)
  have e2 : s' = ByteArray.empty := ByteArray.ext (Array.eq_empty_of_size_eq_zero h.2)
  subst e1 e2
  exact ⟨rfl, rfl, .str (Nat.zero_le _)⟩
 ·exact ⟨rfl, rfl, .nil⟩
 ·exact ⟨rfl, rfl, .slnil (fun _ => rfl)⟩
 ·exact ⟨rfl, rfl, .nilfn⟩
 ·exact ⟨rfl, rfl, .nilmap⟩
theorem cx : ∀ (xs : List aa) (vs : List Value), cQ xs vs = true → ∀ (j : Nat) (x : aa), xs[j]? = some x → ∃ v, vs[j]? = some v ∧ lH x v = true
 | [], [], _, j, x, hx => by simp at hx
 | [], _ :: _, h, _, _, _ => by simp [cQ] at h
 | _ :: _, [], h, _, _, _ => by simp [cQ] at h
 | y :: xs, v :: vs, h, j, x, hx => by
  simp only [cQ, Bool.and_eq_true] at h
  cases j with
  | zero => simp at hx; subst hx; exact ⟨v, rfl, h.1⟩
  | succ j => simpa using cx xs vs h.2 j x (by simpa using hx)
theorem fC : ∀ (fs : List (Nat × Nat)) (gs : List Field), ba L fs gs = true → ∀ (j : Nat) (o t : Nat), fs[j]? = some (o, t) →
  ∃ f, gs[j]? = some f ∧ f.offset = o ∧ f.type = t ∧ 0 < (L t).sz ∧ (L t).ty ≠ .other
 | [], [], _, j, _, _, hx => by simp at hx
 | [], _ :: _, h, _, _, _, _ => by simp [ba] at h
 | _ :: _, [], h, _, _, _, _ => by simp [ba] at h
 | (o', t') :: fs, g :: gs, h, j, o, t, hx => by
  simp only [ba, Bool.and_eq_true, beq_iff_eq, decide_eq_true_eq, bne_iff_ne] at h
  cases j with
  | zero => simp at hx; obtain ⟨rfl, rfl⟩ := hx; exact ⟨g, rfl, h.1.1.1.1, h.1.1.1.2, h.1.1.2, h.1.2⟩
  | succ j => simpa using fC fs gs h.2 j o t (by simpa using hx)
theorem fO : ∀ (fs : List (Nat × Nat)) (gs : List Field), ba L fs gs = true → fs.length = gs.length
 | [], [], _ => rfl
 | [], _ :: _, h => by simp [ba] at h
 | _ :: _, [], h => by simp [ba] at h
 | (o', t') :: fs, g :: gs, h => by
  simp only [ba, Bool.and_eq_true] at h
  simp [fO fs gs h.2]
end
end Go.Rad
namespace Go.Rad
open Go
def tbl : List TI := [
 ⟨.other, false, 0, 0, []⟩,
 ⟨.func, false, 1, 8, [.nilfn]⟩,
 ⟨.int .i64, false, 1, 8, [.int .i64 0]⟩,
 ⟨.int .i64, false, 1, 8, [.int .i64 0]⟩,
 ⟨.bool, false, 1, 1, [.bool false]⟩,
 ⟨.int .u8, false, 1, 1, [.int .u8 0]⟩,
 ⟨.int .u8, false, 1, 1, [.int .u8 0]⟩,
 ⟨.struct [(0, 2), (1, 3), (2, 4), (3, 6)], true, 4, 24, [.int .i64 0, .int .i64 0, .bool false, .int .u8 0]⟩,
 ⟨.struct [(0, 2), (1, 3), (2, 4), (3, 6)], true, 4, 24, [.int .i64 0, .int .i64 0, .bool false, .int .u8 0]⟩,
 ⟨.string, false, 1, 16, [.str ByteArray.empty]⟩,
 ⟨.string, false, 1, 16, [.str ByteArray.empty]⟩,
 ⟨.string, false, 1, 16, [.str ByteArray.empty]⟩,
 ⟨.int .u64, false, 1, 8, [.int .u64 0]⟩,
 ⟨.struct [(0, 9), (1, 12)], true, 2, 24, [.str ByteArray.empty, .int .u64 0]⟩,
 ⟨.struct [(0, 9), (1, 12)], true, 2, 24, [.str ByteArray.empty, .int .u64 0]⟩,
 ⟨.ptr, false, 1, 8, [.nil]⟩,
 ⟨.ptr, false, 1, 8, [.nil]⟩,
 ⟨.ptr, false, 1, 8, [.nil]⟩,
 ⟨.struct [(0, 17)], true, 1, 8, [.nil]⟩,
 ⟨.struct [(0, 17)], true, 1, 8, [.nil]⟩,
 ⟨.other, false, 0, 0, []⟩,
 ⟨.int .i32, false, 1, 4, [.int .i32 0]⟩,
 ⟨.slice 9, false, 1, 24, [.sl true true []]⟩,
 ⟨.slice 93, false, 1, 24, [.sl true true []]⟩,
 ⟨.slice 41, false, 1, 24, [.sl true true []]⟩,
 ⟨.struct [(0, 22), (1, 23), (2, 24)], true, 3, 72, [.sl true true [], .sl true true [], .sl true true []]⟩,
 ⟨.struct [(0, 22), (1, 23), (2, 24)], true, 3, 72, [.sl true true [], .sl true true [], .sl true true []]⟩,
 ⟨.func, false, 1, 8, [.nilfn]⟩,
 ⟨.func, false, 1, 8, [.nilfn]⟩,
 ⟨.func, false, 1, 8, [.nilfn]⟩,
 ⟨.slice 35, false, 1, 24, [.sl true true []]⟩,
 ⟨.int .i64, false, 1, 8, [.int .i64 0]⟩,
 ⟨.other, false, 0, 0, []⟩,
 ⟨.func, false, 1, 8, [.nilfn]⟩,
 ⟨.struct [(0, 3), (1, 3), (2, 3)], true, 3, 24, [.int .i64 0, .int .i64 0, .int .i64 0]⟩,
 ⟨.struct [(0, 3), (1, 3), (2, 3)], true, 3, 24, [.int .i64 0, .int .i64 0, .int .i64 0]⟩,
 ⟨.slice 48, false, 1, 24, [.sl true true []]⟩,
 ⟨.other, false, 0, 0, []⟩,
 ⟨.func, false, 1, 8, [.nilfn]⟩,
 ⟨.slice 3, false, 1, 24, [.sl true true []]⟩,
 ⟨.struct [(0, 39), (1, 4), (2, 4), (3, 9), (4, 3), (5, 3), (6, 36)], true, 7, 88, [.sl true true [], .bool false, .bool false, .str ByteArray.empty, .int .i64 0, .int .i64 0, .sl true true []]⟩,
 ⟨.struct [(0, 39), (1, 4), (2, 4), (3, 9), (4, 3), (5, 3), (6, 36)], true, 7, 88, [.sl true true [], .bool false, .bool false, .str ByteArray.empty, .int .i64 0, .int .i64 0, .sl true true []]⟩,
 ⟨.func, false, 1, 8, [.nilfn]⟩,
 ⟨.func, false, 1, 8, [.nilfn]⟩,
 ⟨.int .u64, false, 1, 8, [.int .u64 0]⟩,
 ⟨.array 4 44, true, 4, 32, [.int .u64 0, .int .u64 0, .int .u64 0, .int .u64 0]⟩,
 ⟨.array 4 44, true, 4, 32, [.int .u64 0, .int .u64 0, .int .u64 0, .int .u64 0]⟩,
 ⟨.struct [(0, 5), (1, 46), (5, 39), (6, 3), (7, 3), (8, 9)], true, 9, 96, [.int .u8 0, .int .u64 0, .int .u64 0, .int .u64 0, .int .u64 0, .sl true true [], .int .i64 0, .int .i64 0, .str ByteArray.empty]⟩,
 ⟨.struct [(0, 5), (1, 46), (5, 39), (6, 3), (7, 3), (8, 9)], true, 9, 96, [.int .u8 0, .int .u64 0, .int .u64 0, .int .u64 0, .int .u64 0, .sl true true [], .int .i64 0, .int .i64 0, .str ByteArray.empty]⟩,
 ⟨.func, false, 1, 8, [.nilfn]⟩,
 ⟨.other, false, 0, 0, []⟩,
 ⟨.func, false, 1, 8, [.nilfn]⟩,
 ⟨.func, false, 1, 8, [.nilfn]⟩,
 ⟨.func, false, 1, 8, [.nilfn]⟩,
 ⟨.other, false, 0, 0, []⟩,
 ⟨.func, false, 1, 8, [.nilfn]⟩,
 ⟨.func, false, 1, 8, [.nilfn]⟩,
 ⟨.slice 5, false, 1, 24, [.sl true true []]⟩,
 ⟨.other, false, 0, 0, []⟩,
 ⟨.func, false, 1, 8, [.nilfn]⟩,
 ⟨.func, false, 1, 8, [.nilfn]⟩,
 ⟨.func, false, 1, 8, [.nilfn]⟩,
 ⟨.other, false, 0, 0, []⟩,
 ⟨.func, false, 1, 8, [.nilfn]⟩,
 ⟨.func, false, 1, 8, [.nilfn]⟩,
 ⟨.func, false, 1, 8, [.nilfn]⟩,
 ⟨.slice 57, false, 1, 24, [.sl true true []]⟩,
 ⟨.func, false, 1, 8, [.nilfn]⟩,
 ⟨.func, false, 1, 8, [.nilfn]⟩,
 ⟨.func, false, 1, 8, [.nilfn]⟩,
 ⟨.func, false, 1, 8, [.nilfn]⟩,
 ⟨.slice 36, false, 1, 24, [.sl true true []]⟩,
 ⟨.struct [(0, 26), (3, 71), (4, 9)], true, 5, 112, [.sl true true [], .sl true true [], .sl true true [], .sl true true [], .str ByteArray.empty]⟩,
 ⟨.struct [(0, 26), (3, 71), (4, 9)], true, 5, 112, [.sl true true [], .sl true true [], .sl true true [], .sl true true [], .str ByteArray.empty]⟩,
 ⟨.other, false, 0, 0, []⟩,
 ⟨.func, false, 1, 8, [.nilfn]⟩,
 ⟨.other, false, 0, 0, []⟩,
 ⟨.func, false, 1, 8, [.nilfn]⟩,
 ⟨.func, false, 1, 8, [.nilfn]⟩,
 ⟨.func, false, 1, 8, [.nilfn]⟩,
 ⟨.func, false, 1, 8, [.nilfn]⟩,
 ⟨.func, false, 1, 8, [.nilfn]⟩,
 ⟨.func, false, 1, 8, [.nilfn]⟩,
 ⟨.func, false, 1, 8, [.nilfn]⟩,
 ⟨.func, false, 1, 8, [.nilfn]⟩,
 ⟨.ptr, false, 1, 8, [.nil]⟩,
 ⟨.struct [(0, 26)], true, 3, 72, [.sl true true [], .sl true true [], .sl true true []]⟩,
 ⟨.struct [(0, 26)], true, 3, 72, [.sl true true [], .sl true true [], .sl true true []]⟩,
 ⟨.ptr, false, 1, 8, [.nil]⟩,
 ⟨.func, false, 1, 8, [.nilfn]⟩,
 ⟨.struct [(0, 31), (1, 3)], true, 2, 16, [.int .i64 0, .int .i64 0]⟩,
 ⟨.struct [(0, 31), (1, 3)], true, 2, 16, [.int .i64 0, .int .i64 0]⟩,
 ⟨.struct [(0, 9), (1, 36)], true, 2, 40, [.str ByteArray.empty, .sl true true []]⟩,
 ⟨.struct [(0, 9), (1, 36)], true, 2, 40, [.str ByteArray.empty, .sl true true []]⟩,
 ⟨.ptr, false, 1, 8, [.nil]⟩,
 ⟨.struct [(0, 9), (1, 3), (2, 36), (3, 3), (4, 31), (5, 3)], true, 6, 72, [.str ByteArray.empty, .int .i64 0, .sl true true [], .int .i64 0, .int .i64 0, .int .i64 0]⟩,
 ⟨.struct [(0, 9), (1, 3), (2, 36), (3, 3), (4, 31), (5, 3)], true, 6, 72, [.str ByteArray.empty, .int .i64 0, .sl true true [], .int .i64 0, .int .i64 0, .int .i64 0]⟩,
 ⟨.func, false, 1, 8, [.nilfn]⟩,
 ⟨.func, false, 1, 8, [.nilfn]⟩,
 ⟨.func, false, 1, 8, [.nilfn]⟩,
 ⟨.func, false, 1, 8, [.nilfn]⟩,
 ⟨.func, false, 1, 8, [.nilfn]⟩,
 ⟨.ptr, false, 1, 8, [.nil]⟩,
 ⟨.struct [(0, 26), (3, 31), (4, 3)], true, 5, 88, [.sl true true [], .sl true true [], .sl true true [], .int .i64 0, .int .i64 0]⟩,
 ⟨.struct [(0, 26), (3, 31), (4, 3)], true, 5, 88, [.sl true true [], .sl true true [], .sl true true [], .int .i64 0, .int .i64 0]⟩,
 ⟨.slice 108, false, 1, 24, [.sl true true []]⟩,
 ⟨.func, false, 1, 8, [.nilfn]⟩,
 ⟨.struct [(0, 3), (1, 9)], true, 2, 24, [.int .i64 0, .str ByteArray.empty]⟩,
 ⟨.struct [(0, 3), (1, 9)], true, 2, 24, [.int .i64 0, .str ByteArray.empty]⟩,
 ⟨.func, false, 1, 8, [.nilfn]⟩,
 ⟨.func, false, 1, 8, [.nilfn]⟩,
 ⟨.func, false, 1, 8, [.nilfn]⟩,
 ⟨.func, false, 1, 8, [.nilfn]⟩,
 ⟨.ptr, false, 1, 8, [.nil]⟩,
 ⟨.slice 4, false, 1, 24, [.sl true true []]⟩,
 ⟨.struct [(0, 23), (1, 114), (2, 36), (3, 31)], true, 4, 80, [.sl true true [], .sl true true [], .sl true true [], .int .i64 0]⟩,
 ⟨.struct [(0, 23), (1, 114), (2, 36), (3, 31)], true, 4, 80, [.sl true true [], .sl true true [], .sl true true [], .int .i64 0]⟩,
 ⟨.func, false, 1, 8, [.nilfn]⟩,
 ⟨.func, false, 1, 8, [.nilfn]⟩,
 ⟨.func, false, 1, 8, [.nilfn]⟩,
 ⟨.func, false, 1, 8, [.nilfn]⟩,
 ⟨.func, false, 1, 8, [.nilfn]⟩,
 ⟨.func, false, 1, 8, [.nilfn]⟩,
 ⟨.func, false, 1, 8, [.nilfn]⟩,
 ⟨.func, false, 1, 8, [.nilfn]⟩,
 ⟨.func, false, 1, 8, [.nilfn]⟩,
 ⟨.struct [(0, 3), (1, 9)], true, 2, 24, [.int .i64 0, .str ByteArray.empty]⟩,
 ⟨.struct [(0, 3), (1, 9)], true, 2, 24, [.int .i64 0, .str ByteArray.empty]⟩,
 ⟨.func, false, 1, 8, [.nilfn]⟩,
 ⟨.ptr, false, 1, 8, [.nil]⟩,
 ⟨.map 9 36, false, 1, 8, [.nilmap]⟩,
 ⟨.map 9 4, false, 1, 8, [.nilmap]⟩,
 ⟨.struct [(0, 130), (1, 131), (2, 36)], true, 3, 40, [.nilmap, .nilmap, .sl true true []]⟩,
 ⟨.struct [(0, 130), (1, 131), (2, 36)], true, 3, 40, [.nilmap, .nilmap, .sl true true []]⟩,
 ⟨.other, false, 0, 0, []⟩,
 ⟨.func, false, 1, 8, [.nilfn]⟩,
 ⟨.func, false, 1, 8, [.nilfn]⟩,
 ⟨.func, false, 1, 8, [.nilfn]⟩,
 ⟨.func, false, 1, 8, [.nilfn]⟩,
 ⟨.other, false, 0, 0, []⟩,
 ⟨.func, false, 1, 8, [.nilfn]⟩,
 ⟨.func, false, 1, 8, [.nilfn]⟩,
 ⟨.func, false, 1, 8, [.nilfn]⟩,
 ⟨.other, false, 0, 0, []⟩,
 ⟨.func, false, 1, 8, [.nilfn]⟩,
 ⟨.func, false, 1, 8, [.nilfn]⟩,
 ⟨.func, false, 1, 8, [.nilfn]⟩,
 ⟨.func, false, 1, 8, [.nilfn]⟩,
 ⟨.func, false, 1, 8, [.nilfn]⟩,
 ⟨.func, false, 1, 8, [.nilfn]⟩,
 ⟨.func, false, 1, 8, [.nilfn]⟩,
 ⟨.func, false, 1, 8, [.nilfn]⟩,
 ⟨.other, false, 0, 0, []⟩,
 ⟨.func, false, 1, 8, [.nilfn]⟩,
 ⟨.func, false, 1, 8, [.nilfn]⟩,
 ⟨.func, false, 1, 8, [.nilfn]⟩,
 ⟨.func, false, 1, 8, [.nilfn]⟩,
 ⟨.func, false, 1, 8, [.nilfn]⟩,
 ⟨.func, false, 1, 8, [.nilfn]⟩,
 ⟨.func, false, 1, 8, [.nilfn]⟩,
 ⟨.func, false, 1, 8, [.nilfn]⟩,
 ⟨.func, false, 1, 8, [.nilfn]⟩,
 ⟨.func, false, 1, 8, [.nilfn]⟩,
 ⟨.func, false, 1, 8, [.nilfn]⟩,
 ⟨.func, false, 1, 8, [.nilfn]⟩,
 ⟨.struct [(0, 36), (1, 9)], true, 2, 40, [.sl true true [], .str ByteArray.empty]⟩,
 ⟨.struct [(0, 36), (1, 9)], true, 2, 40, [.sl true true [], .str ByteArray.empty]⟩,
 ⟨.func, false, 1, 8, [.nilfn]⟩,
 ⟨.func, false, 1, 8, [.nilfn]⟩,
 ⟨.other, false, 0, 0, []⟩,
 ⟨.func, false, 1, 8, [.nilfn]⟩,
 ⟨.func, false, 1, 8, [.nilfn]⟩,
 ⟨.other, false, 0, 0, []⟩,
 ⟨.func, false, 1, 8, [.nilfn]⟩,
 ⟨.func, false, 1, 8, [.nilfn]⟩,
 ⟨.func, false, 1, 8, [.nilfn]⟩,
 ⟨.other, false, 0, 0, []⟩,
 ⟨.func, false, 1, 8, [.nilfn]⟩,
 ⟨.func, false, 1, 8, [.nilfn]⟩,
 ⟨.array 3 127, true, 6, 72, [.int .i64 0, .str ByteArray.empty, .int .i64 0, .str ByteArray.empty, .int .i64 0, .str ByteArray.empty]⟩,
 ⟨.other, false, 0, 0, []⟩,
 ⟨.func, false, 1, 8, [.nilfn]⟩,
 ⟨.func, false, 1, 8, [.nilfn]⟩,
 ⟨.ptr, false, 1, 8, [.nil]⟩,
 ⟨.other, false, 0, 0, []⟩,
 ⟨.func, false, 1, 8, [.nilfn]⟩,
 ⟨.other, false, 0, 0, []⟩,
 ⟨.func, false, 1, 8, [.nilfn]⟩,
 ⟨.slice 46, false, 1, 24, [.sl true true []]⟩,
 ⟨.func, false, 1, 8, [.nilfn]⟩,
 ⟨.func, false, 1, 8, [.nilfn]⟩,
 ⟨.func, false, 1, 8, [.nilfn]⟩,
 ⟨.func, false, 1, 8, [.nilfn]⟩,
 ⟨.func, false, 1, 8, [.nilfn]⟩,
 ⟨.func, false, 1, 8, [.nilfn]⟩,
 ⟨.func, false, 1, 8, [.nilfn]⟩,
 ⟨.func, false, 1, 8, [.nilfn]⟩,
 ⟨.func, false, 1, 8, [.nilfn]⟩,
 ⟨.func, false, 1, 8, [.nilfn]⟩,
 ⟨.array 64 5, true, 64, 64, (List.replicate 64 (.int .u8 0))⟩,
 ⟨.int .u64, false, 1, 8, [.int .u64 0]⟩,
 ⟨.func, false, 1, 8, [.nilfn]⟩,
 ⟨.array 256 5, true, 256, 256, (List.replicate 256 (.int .u8 0))⟩,
 ⟨.struct [(0, 5), (1, 5)], true, 2, 2, [.int .u8 0, .int .u8 0]⟩,
 ⟨.struct [(0, 5), (1, 5)], true, 2, 2, [.int .u8 0, .int .u8 0]⟩,
 ⟨.array 16 204, true, 32, 32, (List.replicate 32 (.int .u8 0))⟩,
 ⟨.func, false, 1, 8, [.nilfn]⟩,
 ⟨.func, false, 1, 8, [.nilfn]⟩,
 ⟨.ptr, false, 1, 8, [.nil]⟩,
 ⟨.struct [(0, 9), (1, 3), (2, 3), (3, 31)], true, 4, 40, [.str ByteArray.empty, .int .i64 0, .int .i64 0, .int .i64 0]⟩,
 ⟨.struct [(0, 9), (1, 3), (2, 3), (3, 31)], true, 4, 40, [.str ByteArray.empty, .int .i64 0, .int .i64 0, .int .i64 0]⟩,
 ⟨.struct [(0, 210), (4, 36), (5, 3)], true, 6, 72, [.str ByteArray.empty, .int .i64 0, .int .i64 0, .int .i64 0, .sl true true [], .int .i64 0]⟩,
 ⟨.struct [(0, 210), (4, 36), (5, 3)], true, 6, 72, [.str ByteArray.empty, .int .i64 0, .int .i64 0, .int .i64 0, .sl true true [], .int .i64 0]⟩,
 ⟨.other, false, 0, 0, []⟩,
 ⟨.func, false, 1, 8, [.nilfn]⟩,
 ⟨.func, false, 1, 8, [.nilfn]⟩,
 ⟨.func, false, 1, 8, [.nilfn]⟩,
 ⟨.func, false, 1, 8, [.nilfn]⟩,
 ⟨.func, false, 1, 8, [.nilfn]⟩,
 ⟨.func, false, 1, 8, [.nilfn]⟩,
 ⟨.func, false, 1, 8, [.nilfn]⟩,
 ⟨.slice 39, false, 1, 24, [.sl true true []]⟩,
 ⟨.func, false, 1, 8, [.nilfn]⟩,
 ⟨.int .u32, false, 1, 4, [.int .u32 0]⟩,
 ⟨.other, false, 0, 0, []⟩,
 ⟨.func, false, 1, 8, [.nilfn]⟩,
 ⟨.func, false, 1, 8, [.nilfn]⟩,
 ⟨.ptr, false, 1, 8, [.nil]⟩,
 ⟨.func, false, 1, 8, [.nilfn]⟩,
 ⟨.func, false, 1, 8, [.nilfn]⟩,
 ⟨.int .i64, false, 1, 8, [.int .i64 0]⟩,
 ⟨.other, false, 0, 0, []⟩,
 ⟨.func, false, 1, 8, [.nilfn]⟩,
 ⟨.func, false, 1, 8, [.nilfn]⟩,
 ⟨.func, false, 1, 8, [.nilfn]⟩,
 ⟨.func, false, 1, 8, [.nilfn]⟩,
 ⟨.func, false, 1, 8, [.nilfn]⟩,
 ⟨.func, false, 1, 8, [.nilfn]⟩,
 ⟨.int .u64, false, 1, 8, [.int .u64 0]⟩,
 ⟨.func, false, 1, 8, [.nilfn]⟩,
 ⟨.func, false, 1, 8, [.nilfn]⟩,
 ⟨.func, false, 1, 8, [.nilfn]⟩,
 ⟨.ptr, false, 1, 8, [.nil]⟩,
 ⟨.func, false, 1, 8, [.nilfn]⟩,
 ⟨.func, false, 1, 8, [.nilfn]⟩,
 ⟨.other, false, 0, 0, []⟩,
 ⟨.func, false, 1, 8, [.nilfn]⟩,
 ⟨.ptr, false, 1, 8, [.nil]⟩,
 ⟨.func, false, 1, 8, [.nilfn]⟩,
 ⟨.func, false, 1, 8, [.nilfn]⟩,
 ⟨.func, false, 1, 8, [.nilfn]⟩,
 ⟨.func, false, 1, 8, [.nilfn]⟩,
 ⟨.struct [(0, 17), (1, 17), (2, 17), (3, 9)], true, 4, 40, [.nil, .nil, .nil, .str ByteArray.empty]⟩,
 ⟨.struct [(0, 17), (1, 17), (2, 17), (3, 9)], true, 4, 40, [.nil, .nil, .nil, .str ByteArray.empty]⟩,
 ⟨.array 0 16, true, 0, 0, []⟩,
 ⟨.other, false, 0, 0, []⟩,
 ⟨.other, false, 0, 0, []⟩,
 ⟨.int .u8, false, 1, 1, [.int .u8 0]⟩,
 ⟨.int .u8, false, 1, 1, [.int .u8 0]⟩,
 ⟨.func, false, 1, 8, [.nilfn]⟩,
 ⟨.ptr, false, 1, 8, [.nil]⟩,
 ⟨.int .i32, false, 1, 4, [.int .i32 0]⟩,
 ⟨.int .i32, false, 1, 4, [.int .i32 0]⟩,
 ⟨.struct [(0, 12), (1, 12), (2, 223), (3, 257), (4, 5), (5, 5), (6, 258), (7, 259), (8, 260), (9, 261), (10, 262)], true, 11, 48, [.int .u64 0, .int .u64 0, .int .u32 0, .int .u8 0, .int .u8 0, .int .u8 0, .int .u8 0, .nilfn, .nil, .int .i32 0, .int .i32 0]⟩,
 ⟨.struct [(0, 12), (1, 12), (2, 223), (3, 257), (4, 5), (5, 5), (6, 258), (7, 259), (8, 260), (9, 261), (10, 262)], true, 11, 48, [.int .u64 0, .int .u64 0, .int .u32 0, .int .u8 0, .int .u8 0, .int .u8 0, .int .u8 0, .nilfn, .nil, .int .i32 0, .int .i32 0]⟩,
 ⟨.other, false, 0, 0, []⟩]
def LL : Lay := sO tbl
theorem gX : LOk Go.Proofs.Tryz.prog LL := L2 _ _ (by kernel_rfl)
theorem mixed : Go.Proofs.Tryz.prog.follows .mixedOrders = true := by decide
theorem LL_1 : LL 1 = ⟨.func, false, 1, 8, [.nilfn]⟩ := Eq.trans rfl rfl
theorem LL_2 : LL 2 = ⟨.int .i64, false, 1, 8, [.int .i64 0]⟩ := Eq.trans rfl rfl
theorem LL_3 : LL 3 = ⟨.int .i64, false, 1, 8, [.int .i64 0]⟩ := Eq.trans rfl rfl
theorem LL_4 : LL 4 = ⟨.bool, false, 1, 1, [.bool false]⟩ := Eq.trans rfl rfl
theorem LL_5 : LL 5 = ⟨.int .u8, false, 1, 1, [.int .u8 0]⟩ := Eq.trans rfl rfl
theorem LL_6 : LL 6 = ⟨.int .u8, false, 1, 1, [.int .u8 0]⟩ := Eq.trans rfl rfl
theorem LL_7 : LL 7 = ⟨.struct [(0, 2), (1, 3), (2, 4), (3, 6)], true, 4, 24, [.int .i64 0, .int .i64 0, .bool false, .int .u8 0]⟩ := Eq.trans rfl rfl
theorem LL_8 : LL 8 = ⟨.struct [(0, 2), (1, 3), (2, 4), (3, 6)], true, 4, 24, [.int .i64 0, .int .i64 0, .bool false, .int .u8 0]⟩ := Eq.trans rfl rfl
theorem LL_9 : LL 9 = ⟨.string, false, 1, 16, [.str ByteArray.empty]⟩ := Eq.trans rfl rfl
theorem J4 : LL 10 = ⟨.string, false, 1, 16, [.str ByteArray.empty]⟩ := Eq.trans rfl rfl
theorem J5 : LL 11 = ⟨.string, false, 1, 16, [.str ByteArray.empty]⟩ := Eq.trans rfl rfl
theorem J6 : LL 12 = ⟨.int .u64, false, 1, 8, [.int .u64 0]⟩ := Eq.trans rfl rfl
theorem J7 : LL 13 = ⟨.struct [(0, 9), (1, 12)], true, 2, 24, [.str ByteArray.empty, .int .u64 0]⟩ := Eq.trans rfl rfl
theorem J8 : LL 14 = ⟨.struct [(0, 9), (1, 12)], true, 2, 24, [.str ByteArray.empty, .int .u64 0]⟩ := Eq.trans rfl rfl
theorem J9 : LL 15 = ⟨.ptr, false, 1, 8, [.nil]⟩ := Eq.trans rfl rfl
theorem Ka : LL 16 = ⟨.ptr, false, 1, 8, [.nil]⟩ := Eq.trans rfl rfl
theorem Kb : LL 17 = ⟨.ptr, false, 1, 8, [.nil]⟩ := Eq.trans rfl rfl
theorem Kc : LL 18 = ⟨.struct [(0, 17)], true, 1, 8, [.nil]⟩ := Eq.trans rfl rfl
theorem Kd : LL 19 = ⟨.struct [(0, 17)], true, 1, 8, [.nil]⟩ := Eq.trans rfl rfl
theorem Ke : LL 21 = ⟨.int .i32, false, 1, 4, [.int .i32 0]⟩ := Eq.trans rfl rfl
theorem Kf : LL 22 = ⟨.slice 9, false, 1, 24, [.sl true true []]⟩ := Eq.trans rfl rfl
theorem Kg : LL 23 = ⟨.slice 93, false, 1, 24, [.sl true true []]⟩ := Eq.trans rfl rfl
theorem Kh : LL 24 = ⟨.slice 41, false, 1, 24, [.sl true true []]⟩ := Eq.trans rfl rfl
theorem Ki : LL 25 = ⟨.struct [(0, 22), (1, 23), (2, 24)], true, 3, 72, [.sl true true [], .sl true true [], .sl true true []]⟩ := Eq.trans rfl rfl
theorem Kj : LL 26 = ⟨.struct [(0, 22), (1, 23), (2, 24)], true, 3, 72, [.sl true true [], .sl true true [], .sl true true []]⟩ := Eq.trans rfl rfl
theorem Kk : LL 27 = ⟨.func, false, 1, 8, [.nilfn]⟩ := Eq.trans rfl rfl
theorem Kl : LL 28 = ⟨.func, false, 1, 8, [.nilfn]⟩ := Eq.trans rfl rfl
theorem Km : LL 29 = ⟨.func, false, 1, 8, [.nilfn]⟩ := Eq.trans rfl rfl
theorem Kn : LL 30 = ⟨.slice 35, false, 1, 24, [.sl true true []]⟩ := Eq.trans rfl rfl
theorem Ko : LL 31 = ⟨.int .i64, false, 1, 8, [.int .i64 0]⟩ := Eq.trans rfl rfl
theorem Kp : LL 33 = ⟨.func, false, 1, 8, [.nilfn]⟩ := Eq.trans rfl rfl
theorem Kq : LL 34 = ⟨.struct [(0, 3), (1, 3), (2, 3)], true, 3, 24, [.int .i64 0, .int .i64 0, .int .i64 0]⟩ := Eq.trans rfl rfl
theorem Kr : LL 35 = ⟨.struct [(0, 3), (1, 3), (2, 3)], true, 3, 24, [.int .i64 0, .int .i64 0, .int .i64 0]⟩ := Eq.trans rfl rfl
theorem Ks : LL 36 = ⟨.slice 48, false, 1, 24, [.sl true true []]⟩ := Eq.trans rfl rfl
theorem Kt : LL 38 = ⟨.func, false, 1, 8, [.nilfn]⟩ := Eq.trans rfl rfl
theorem Ku : LL 39 = ⟨.slice 3, false, 1, 24, [.sl true true []]⟩ := Eq.trans rfl rfl
theorem Kv : LL 40 = ⟨.struct [(0, 39), (1, 4), (2, 4), (3, 9), (4, 3), (5, 3), (6, 36)], true, 7, 88, [.sl true true [], .bool false, .bool false, .str ByteArray.empty, .int .i64 0, .int .i64 0, .sl true true []]⟩ := Eq.trans rfl rfl
theorem Kw : LL 41 = ⟨.struct [(0, 39), (1, 4), (2, 4), (3, 9), (4, 3), (5, 3), (6, 36)], true, 7, 88, [.sl true true [], .bool false, .bool false, .str ByteArray.empty, .int .i64 0, .int .i64 0, .sl true true []]⟩ := Eq.trans rfl rfl
theorem Kx : LL 42 = ⟨.func, false, 1, 8, [.nilfn]⟩ := Eq.trans rfl rfl
theorem Ky : LL 43 = ⟨.func, false, 1, 8, [.nilfn]⟩ := Eq.trans rfl rfl
theorem Kz : LL 44 = ⟨.int .u64, false, 1, 8, [.int .u64 0]⟩ := Eq.trans rfl rfl
theorem KA : LL 45 = ⟨.array 4 44, true, 4, 32, [.int .u64 0, .int .u64 0, .int .u64 0, .int .u64 0]⟩ := Eq.trans rfl rfl
theorem KB : LL 46 = ⟨.array 4 44, true, 4, 32, [.int .u64 0, .int .u64 0, .int .u64 0, .int .u64 0]⟩ := Eq.trans rfl rfl
theorem KC : LL 47 = ⟨.struct [(0, 5), (1, 46), (5, 39), (6, 3), (7, 3), (8, 9)], true, 9, 96, [.int .u8 0, .int .u64 0, .int .u64 0, .int .u64 0, .int .u64 0, .sl true true [], .int .i64 0, .int .i64 0, .str ByteArray.empty]⟩ := Eq.trans rfl rfl
theorem KD : LL 48 = ⟨.struct [(0, 5), (1, 46), (5, 39), (6, 3), (7, 3), (8, 9)], true, 9, 96, [.int .u8 0, .int .u64 0, .int .u64 0, .int .u64 0, .int .u64 0, .sl true true [], .int .i64 0, .int .i64 0, .str ByteArray.empty]⟩ := Eq.trans rfl rfl
theorem KE : LL 49 = ⟨.func, false, 1, 8, [.nilfn]⟩ := Eq.trans rfl rfl
theorem KF : LL 51 = ⟨.func, false, 1, 8, [.nilfn]⟩ := Eq.trans rfl rfl
theorem KG : LL 52 = ⟨.func, false, 1, 8, [.nilfn]⟩ := Eq.trans rfl rfl
theorem KH : LL 53 = ⟨.func, false, 1, 8, [.nilfn]⟩ := Eq.trans rfl rfl
theorem KI : LL 55 = ⟨.func, false, 1, 8, [.nilfn]⟩ := Eq.trans rfl rfl
theorem KJ : LL 56 = ⟨.func, false, 1, 8, [.nilfn]⟩ := Eq.trans rfl rfl
theorem KK : LL 57 = ⟨.slice 5, false, 1, 24, [.sl true true []]⟩ := Eq.trans rfl rfl
theorem KL : LL 59 = ⟨.func, false, 1, 8, [.nilfn]⟩ := Eq.trans rfl rfl
theorem KM : LL 60 = ⟨.func, false, 1, 8, [.nilfn]⟩ := Eq.trans rfl rfl
theorem KN : LL 61 = ⟨.func, false, 1, 8, [.nilfn]⟩ := Eq.trans rfl rfl
theorem KO : LL 63 = ⟨.func, false, 1, 8, [.nilfn]⟩ := Eq.trans rfl rfl
theorem KP : LL 64 = ⟨.func, false, 1, 8, [.nilfn]⟩ := Eq.trans rfl rfl
theorem KQ : LL 65 = ⟨.func, false, 1, 8, [.nilfn]⟩ := Eq.trans rfl rfl
theorem KR : LL 66 = ⟨.slice 57, false, 1, 24, [.sl true true []]⟩ := Eq.trans rfl rfl
theorem KS : LL 67 = ⟨.func, false, 1, 8, [.nilfn]⟩ := Eq.trans rfl rfl
theorem KT : LL 68 = ⟨.func, false, 1, 8, [.nilfn]⟩ := Eq.trans rfl rfl
theorem KU : LL 69 = ⟨.func, false, 1, 8, [.nilfn]⟩ := Eq.trans rfl rfl
theorem KV : LL 70 = ⟨.func, false, 1, 8, [.nilfn]⟩ := Eq.trans rfl rfl
theorem KW : LL 71 = ⟨.slice 36, false, 1, 24, [.sl true true []]⟩ := Eq.trans rfl rfl
theorem KX : LL 72 = ⟨.struct [(0, 26), (3, 71), (4, 9)], true, 5, 112, [.sl true true [], .sl true true [], .sl true true [], .sl true true [], .str ByteArray.empty]⟩ := Eq.trans rfl rfl
theorem KY : LL 73 = ⟨.struct [(0, 26), (3, 71), (4, 9)], true, 5, 112, [.sl true true [], .sl true true [], .sl true true [], .sl true true [], .str ByteArray.empty]⟩ := Eq.trans rfl rfl
theorem KZ : LL 75 = ⟨.func, false, 1, 8, [.nilfn]⟩ := Eq.trans rfl rfl
theorem K0 : LL 77 = ⟨.func, false, 1, 8, [.nilfn]⟩ := Eq.trans rfl rfl
theorem K1 : LL 78 = ⟨.func, false, 1, 8, [.nilfn]⟩ := Eq.trans rfl rfl
theorem K2 : LL 79 = ⟨.func, false, 1, 8, [.nilfn]⟩ := Eq.trans rfl rfl
theorem K3 : LL 80 = ⟨.func, false, 1, 8, [.nilfn]⟩ := Eq.trans rfl rfl
theorem K4 : LL 81 = ⟨.func, false, 1, 8, [.nilfn]⟩ := Eq.trans rfl rfl
theorem K5 : LL 82 = ⟨.func, false, 1, 8, [.nilfn]⟩ := Eq.trans rfl rfl
theorem K6 : LL 83 = ⟨.func, false, 1, 8, [.nilfn]⟩ := Eq.trans rfl rfl
theorem K7 : LL 84 = ⟨.func, false, 1, 8, [.nilfn]⟩ := Eq.trans rfl rfl
theorem K8 : LL 85 = ⟨.ptr, false, 1, 8, [.nil]⟩ := Eq.trans rfl rfl
theorem K9 : LL 86 = ⟨.struct [(0, 26)], true, 3, 72, [.sl true true [], .sl true true [], .sl true true []]⟩ := Eq.trans rfl rfl
theorem Lc : LL 87 = ⟨.struct [(0, 26)], true, 3, 72, [.sl true true [], .sl true true [], .sl true true []]⟩ := Eq.trans rfl rfl
theorem Ld : LL 88 = ⟨.ptr, false, 1, 8, [.nil]⟩ := Eq.trans rfl rfl
theorem Le : LL 89 = ⟨.func, false, 1, 8, [.nilfn]⟩ := Eq.trans rfl rfl
theorem Lf : LL 90 = ⟨.struct [(0, 31), (1, 3)], true, 2, 16, [.int .i64 0, .int .i64 0]⟩ := Eq.trans rfl rfl
theorem Lg : LL 91 = ⟨.struct [(0, 31), (1, 3)], true, 2, 16, [.int .i64 0, .int .i64 0]⟩ := Eq.trans rfl rfl
theorem Lh : LL 92 = ⟨.struct [(0, 9), (1, 36)], true, 2, 40, [.str ByteArray.empty, .sl true true []]⟩ := Eq.trans rfl rfl
theorem Li : LL 93 = ⟨.struct [(0, 9), (1, 36)], true, 2, 40, [.str ByteArray.empty, .sl true true []]⟩ := Eq.trans rfl rfl
theorem Lj : LL 94 = ⟨.ptr, false, 1, 8, [.nil]⟩ := Eq.trans rfl rfl
theorem Lk : LL 95 = ⟨.struct [(0, 9), (1, 3), (2, 36), (3, 3), (4, 31), (5, 3)], true, 6, 72, [.str ByteArray.empty, .int .i64 0, .sl true true [], .int .i64 0, .int .i64 0, .int .i64 0]⟩ := Eq.trans rfl rfl
theorem Ll : LL 96 = ⟨.struct [(0, 9), (1, 3), (2, 36), (3, 3), (4, 31), (5, 3)], true, 6, 72, [.str ByteArray.empty, .int .i64 0, .sl true true [], .int .i64 0, .int .i64 0, .int .i64 0]⟩ := Eq.trans rfl rfl
theorem Lm : LL 97 = ⟨.func, false, 1, 8, [.nilfn]⟩ := Eq.trans rfl rfl
theorem Ln : LL 98 = ⟨.func, false, 1, 8, [.nilfn]⟩ := Eq.trans rfl rfl
theorem Lo : LL 99 = ⟨.func, false, 1, 8, [.nilfn]⟩ := Eq.trans rfl rfl
theorem Ez : LL 100 = ⟨.func, false, 1, 8, [.nilfn]⟩ := Eq.trans rfl rfl
theorem EA : LL 101 = ⟨.func, false, 1, 8, [.nilfn]⟩ := Eq.trans rfl rfl
theorem EB : LL 102 = ⟨.ptr, false, 1, 8, [.nil]⟩ := Eq.trans rfl rfl
theorem EC : LL 103 = ⟨.struct [(0, 26), (3, 31), (4, 3)], true, 5, 88, [.sl true true [], .sl true true [], .sl true true [], .int .i64 0, .int .i64 0]⟩ := Eq.trans rfl rfl
theorem ED : LL 104 = ⟨.struct [(0, 26), (3, 31), (4, 3)], true, 5, 88, [.sl true true [], .sl true true [], .sl true true [], .int .i64 0, .int .i64 0]⟩ := Eq.trans rfl rfl
theorem EE : LL 105 = ⟨.slice 108, false, 1, 24, [.sl true true []]⟩ := Eq.trans rfl rfl
theorem EF : LL 106 = ⟨.func, false, 1, 8, [.nilfn]⟩ := Eq.trans rfl rfl
theorem EG : LL 107 = ⟨.struct [(0, 3), (1, 9)], true, 2, 24, [.int .i64 0, .str ByteArray.empty]⟩ := Eq.trans rfl rfl
theorem EH : LL 108 = ⟨.struct [(0, 3), (1, 9)], true, 2, 24, [.int .i64 0, .str ByteArray.empty]⟩ := Eq.trans rfl rfl
theorem EI : LL 109 = ⟨.func, false, 1, 8, [.nilfn]⟩ := Eq.trans rfl rfl
theorem EJ : LL 110 = ⟨.func, false, 1, 8, [.nilfn]⟩ := Eq.trans rfl rfl
theorem EK : LL 111 = ⟨.func, false, 1, 8, [.nilfn]⟩ := Eq.trans rfl rfl
theorem EL : LL 112 = ⟨.func, false, 1, 8, [.nilfn]⟩ := Eq.trans rfl rfl
theorem EM : LL 113 = ⟨.ptr, false, 1, 8, [.nil]⟩ := Eq.trans rfl rfl
theorem EN : LL 114 = ⟨.slice 4, false, 1, 24, [.sl true true []]⟩ := Eq.trans rfl rfl
theorem EO : LL 115 = ⟨.struct [(0, 23), (1, 114), (2, 36), (3, 31)], true, 4, 80, [.sl true true [], .sl true true [], .sl true true [], .int .i64 0]⟩ := Eq.trans rfl rfl
theorem EP : LL 116 = ⟨.struct [(0, 23), (1, 114), (2, 36), (3, 31)], true, 4, 80, [.sl true true [], .sl true true [], .sl true true [], .int .i64 0]⟩ := Eq.trans rfl rfl
theorem ER : LL 117 = ⟨.func, false, 1, 8, [.nilfn]⟩ := Eq.trans rfl rfl
theorem ES : LL 118 = ⟨.func, false, 1, 8, [.nilfn]⟩ := Eq.trans rfl rfl
theorem ET : LL 119 = ⟨.func, false, 1, 8, [.nilfn]⟩ := Eq.trans rfl rfl
theorem EU : LL 120 = ⟨.func, false, 1, 8, [.nilfn]⟩ := Eq.trans rfl rfl
theorem EV : LL 121 = ⟨.func, false, 1, 8, [.nilfn]⟩ := Eq.trans rfl rfl
theorem EW : LL 122 = ⟨.func, false, 1, 8, [.nilfn]⟩ := Eq.trans rfl rfl
theorem EX : LL 123 = ⟨.func, false, 1, 8, [.nilfn]⟩ := Eq.trans rfl rfl
theorem EY : LL 124 = ⟨.func, false, 1, 8, [.nilfn]⟩ := Eq.trans rfl rfl
theorem EZ : LL 125 = ⟨.func, false, 1, 8, [.nilfn]⟩ := Eq.trans rfl rfl
theorem E0 : LL 126 = ⟨.struct [(0, 3), (1, 9)], true, 2, 24, [.int .i64 0, .str ByteArray.empty]⟩ := Eq.trans rfl rfl
theorem E1 : LL 127 = ⟨.struct [(0, 3), (1, 9)], true, 2, 24, [.int .i64 0, .str ByteArray.empty]⟩ := Eq.trans rfl rfl
theorem E2 : LL 128 = ⟨.func, false, 1, 8, [.nilfn]⟩ := Eq.trans rfl rfl
theorem E3 : LL 129 = ⟨.ptr, false, 1, 8, [.nil]⟩ := Eq.trans rfl rfl
theorem E4 : LL 130 = ⟨.map 9 36, false, 1, 8, [.nilmap]⟩ := Eq.trans rfl rfl
theorem E5 : LL 131 = ⟨.map 9 4, false, 1, 8, [.nilmap]⟩ := Eq.trans rfl rfl
theorem E6 : LL 132 = ⟨.struct [(0, 130), (1, 131), (2, 36)], true, 3, 40, [.nilmap, .nilmap, .sl true true []]⟩ := Eq.trans rfl rfl
theorem E7 : LL 133 = ⟨.struct [(0, 130), (1, 131), (2, 36)], true, 3, 40, [.nilmap, .nilmap, .sl true true []]⟩ := Eq.trans rfl rfl
theorem E8 : LL 135 = ⟨.func, false, 1, 8, [.nilfn]⟩ := Eq.trans rfl rfl
theorem E9 : LL 136 = ⟨.func, false, 1, 8, [.nilfn]⟩ := Eq.trans rfl rfl
theorem Fa : LL 137 = ⟨.func, false, 1, 8, [.nilfn]⟩ := Eq.trans rfl rfl
theorem Fb : LL 138 = ⟨.func, false, 1, 8, [.nilfn]⟩ := Eq.trans rfl rfl
theorem Fc : LL 140 = ⟨.func, false, 1, 8, [.nilfn]⟩ := Eq.trans rfl rfl
theorem Fe : LL 141 = ⟨.func, false, 1, 8, [.nilfn]⟩ := Eq.trans rfl rfl
theorem Ff : LL 142 = ⟨.func, false, 1, 8, [.nilfn]⟩ := Eq.trans rfl rfl
theorem Fg : LL 144 = ⟨.func, false, 1, 8, [.nilfn]⟩ := Eq.trans rfl rfl
theorem Fh : LL 145 = ⟨.func, false, 1, 8, [.nilfn]⟩ := Eq.trans rfl rfl
theorem Fi : LL 146 = ⟨.func, false, 1, 8, [.nilfn]⟩ := Eq.trans rfl rfl
theorem Fj : LL 147 = ⟨.func, false, 1, 8, [.nilfn]⟩ := Eq.trans rfl rfl
theorem Fk : LL 148 = ⟨.func, false, 1, 8, [.nilfn]⟩ := Eq.trans rfl rfl
theorem Fm : LL 149 = ⟨.func, false, 1, 8, [.nilfn]⟩ := Eq.trans rfl rfl
theorem Fp : LL 150 = ⟨.func, false, 1, 8, [.nilfn]⟩ := Eq.trans rfl rfl
theorem Fq : LL 151 = ⟨.func, false, 1, 8, [.nilfn]⟩ := Eq.trans rfl rfl
theorem Fs : LL 153 = ⟨.func, false, 1, 8, [.nilfn]⟩ := Eq.trans rfl rfl
theorem Ft : LL 154 = ⟨.func, false, 1, 8, [.nilfn]⟩ := Eq.trans rfl rfl
theorem Fu : LL 155 = ⟨.func, false, 1, 8, [.nilfn]⟩ := Eq.trans rfl rfl
theorem Fv : LL 156 = ⟨.func, false, 1, 8, [.nilfn]⟩ := Eq.trans rfl rfl
theorem Fw : LL 157 = ⟨.func, false, 1, 8, [.nilfn]⟩ := Eq.trans rfl rfl
theorem Fx : LL 158 = ⟨.func, false, 1, 8, [.nilfn]⟩ := Eq.trans rfl rfl
theorem Fy : LL 159 = ⟨.func, false, 1, 8, [.nilfn]⟩ := Eq.trans rfl rfl
theorem Fz : LL 160 = ⟨.func, false, 1, 8, [.nilfn]⟩ := Eq.trans rfl rfl
theorem FA : LL 161 = ⟨.func, false, 1, 8, [.nilfn]⟩ := Eq.trans rfl rfl
theorem FB : LL 162 = ⟨.func, false, 1, 8, [.nilfn]⟩ := Eq.trans rfl rfl
theorem FC : LL 163 = ⟨.func, false, 1, 8, [.nilfn]⟩ := Eq.trans rfl rfl
theorem FD : LL 164 = ⟨.func, false, 1, 8, [.nilfn]⟩ := Eq.trans rfl rfl
theorem FE : LL 165 = ⟨.struct [(0, 36), (1, 9)], true, 2, 40, [.sl true true [], .str ByteArray.empty]⟩ := Eq.trans rfl rfl
theorem FF : LL 166 = ⟨.struct [(0, 36), (1, 9)], true, 2, 40, [.sl true true [], .str ByteArray.empty]⟩ := Eq.trans rfl rfl
theorem FG : LL 167 = ⟨.func, false, 1, 8, [.nilfn]⟩ := Eq.trans rfl rfl
theorem FH : LL 168 = ⟨.func, false, 1, 8, [.nilfn]⟩ := Eq.trans rfl rfl
theorem FI : LL 170 = ⟨.func, false, 1, 8, [.nilfn]⟩ := Eq.trans rfl rfl
theorem FJ : LL 171 = ⟨.func, false, 1, 8, [.nilfn]⟩ := Eq.trans rfl rfl
theorem FK : LL 173 = ⟨.func, false, 1, 8, [.nilfn]⟩ := Eq.trans rfl rfl
theorem FL : LL 174 = ⟨.func, false, 1, 8, [.nilfn]⟩ := Eq.trans rfl rfl
theorem FM : LL 175 = ⟨.func, false, 1, 8, [.nilfn]⟩ := Eq.trans rfl rfl
theorem FN : LL 177 = ⟨.func, false, 1, 8, [.nilfn]⟩ := Eq.trans rfl rfl
theorem FO : LL 178 = ⟨.func, false, 1, 8, [.nilfn]⟩ := Eq.trans rfl rfl
theorem FP : LL 179 = ⟨.array 3 127, true, 6, 72, [.int .i64 0, .str ByteArray.empty, .int .i64 0, .str ByteArray.empty, .int .i64 0, .str ByteArray.empty]⟩ := Eq.trans rfl rfl
theorem FQ : LL 181 = ⟨.func, false, 1, 8, [.nilfn]⟩ := Eq.trans rfl rfl
theorem FR : LL 182 = ⟨.func, false, 1, 8, [.nilfn]⟩ := Eq.trans rfl rfl
theorem FT : LL 183 = ⟨.ptr, false, 1, 8, [.nil]⟩ := Eq.trans rfl rfl
theorem FU : LL 185 = ⟨.func, false, 1, 8, [.nilfn]⟩ := Eq.trans rfl rfl
theorem FV : LL 187 = ⟨.func, false, 1, 8, [.nilfn]⟩ := Eq.trans rfl rfl
theorem FW : LL 188 = ⟨.slice 46, false, 1, 24, [.sl true true []]⟩ := Eq.trans rfl rfl
theorem FX : LL 189 = ⟨.func, false, 1, 8, [.nilfn]⟩ := Eq.trans rfl rfl
theorem FY : LL 190 = ⟨.func, false, 1, 8, [.nilfn]⟩ := Eq.trans rfl rfl
theorem F0 : LL 191 = ⟨.func, false, 1, 8, [.nilfn]⟩ := Eq.trans rfl rfl
theorem F2 : LL 192 = ⟨.func, false, 1, 8, [.nilfn]⟩ := Eq.trans rfl rfl
theorem F3 : LL 193 = ⟨.func, false, 1, 8, [.nilfn]⟩ := Eq.trans rfl rfl
theorem F4 : LL 194 = ⟨.func, false, 1, 8, [.nilfn]⟩ := Eq.trans rfl rfl
theorem F5 : LL 195 = ⟨.func, false, 1, 8, [.nilfn]⟩ := Eq.trans rfl rfl
theorem F6 : LL 196 = ⟨.func, false, 1, 8, [.nilfn]⟩ := Eq.trans rfl rfl
theorem F7 : LL 197 = ⟨.func, false, 1, 8, [.nilfn]⟩ := Eq.trans rfl rfl
theorem F8 : LL 198 = ⟨.func, false, 1, 8, [.nilfn]⟩ := Eq.trans rfl rfl
theorem F9 : LL 199 = ⟨.array 64 5, true, 64, 64, (List.replicate 64 (.int .u8 0))⟩ := Eq.trans rfl rfl
theorem Ga : LL 200 = ⟨.int .u64, false, 1, 8, [.int .u64 0]⟩ := Eq.trans rfl rfl
theorem Gb : LL 201 = ⟨.func, false, 1, 8, [.nilfn]⟩ := Eq.trans rfl rfl
theorem Gc : LL 202 = ⟨.array 256 5, true, 256, 256, (List.replicate 256 (.int .u8 0))⟩ := Eq.trans rfl rfl
theorem Gd : LL 203 = ⟨.struct [(0, 5), (1, 5)], true, 2, 2, [.int .u8 0, .int .u8 0]⟩ := Eq.trans rfl rfl
theorem Ge : LL 204 = ⟨.struct [(0, 5), (1, 5)], true, 2, 2, [.int .u8 0, .int .u8 0]⟩ := Eq.trans rfl rfl
theorem Gf : LL 205 = ⟨.array 16 204, true, 32, 32, (List.replicate 32 (.int .u8 0))⟩ := Eq.trans rfl rfl
theorem Gg : LL 206 = ⟨.func, false, 1, 8, [.nilfn]⟩ := Eq.trans rfl rfl
theorem Gi : LL 207 = ⟨.func, false, 1, 8, [.nilfn]⟩ := Eq.trans rfl rfl
theorem Gj : LL 208 = ⟨.ptr, false, 1, 8, [.nil]⟩ := Eq.trans rfl rfl
theorem Gk : LL 209 = ⟨.struct [(0, 9), (1, 3), (2, 3), (3, 31)], true, 4, 40, [.str ByteArray.empty, .int .i64 0, .int .i64 0, .int .i64 0]⟩ := Eq.trans rfl rfl
theorem Gl : LL 210 = ⟨.struct [(0, 9), (1, 3), (2, 3), (3, 31)], true, 4, 40, [.str ByteArray.empty, .int .i64 0, .int .i64 0, .int .i64 0]⟩ := Eq.trans rfl rfl
theorem Gm : LL 211 = ⟨.struct [(0, 210), (4, 36), (5, 3)], true, 6, 72, [.str ByteArray.empty, .int .i64 0, .int .i64 0, .int .i64 0, .sl true true [], .int .i64 0]⟩ := Eq.trans rfl rfl
theorem Gn : LL 212 = ⟨.struct [(0, 210), (4, 36), (5, 3)], true, 6, 72, [.str ByteArray.empty, .int .i64 0, .int .i64 0, .int .i64 0, .sl true true [], .int .i64 0]⟩ := Eq.trans rfl rfl
theorem Gp : LL 214 = ⟨.func, false, 1, 8, [.nilfn]⟩ := Eq.trans rfl rfl
theorem Gq : LL 215 = ⟨.func, false, 1, 8, [.nilfn]⟩ := Eq.trans rfl rfl
theorem Gr : LL 216 = ⟨.func, false, 1, 8, [.nilfn]⟩ := Eq.trans rfl rfl
theorem Gs : LL 217 = ⟨.func, false, 1, 8, [.nilfn]⟩ := Eq.trans rfl rfl
theorem Gt : LL 218 = ⟨.func, false, 1, 8, [.nilfn]⟩ := Eq.trans rfl rfl
theorem Gu : LL 219 = ⟨.func, false, 1, 8, [.nilfn]⟩ := Eq.trans rfl rfl
theorem Gv : LL 220 = ⟨.func, false, 1, 8, [.nilfn]⟩ := Eq.trans rfl rfl
theorem Gw : LL 221 = ⟨.slice 39, false, 1, 24, [.sl true true []]⟩ := Eq.trans rfl rfl
theorem Gx : LL 222 = ⟨.func, false, 1, 8, [.nilfn]⟩ := Eq.trans rfl rfl
theorem Gy : LL 223 = ⟨.int .u32, false, 1, 4, [.int .u32 0]⟩ := Eq.trans rfl rfl
theorem Gz : LL 225 = ⟨.func, false, 1, 8, [.nilfn]⟩ := Eq.trans rfl rfl
theorem GA : LL 226 = ⟨.func, false, 1, 8, [.nilfn]⟩ := Eq.trans rfl rfl
theorem GB : LL 227 = ⟨.ptr, false, 1, 8, [.nil]⟩ := Eq.trans rfl rfl
theorem GC : LL 228 = ⟨.func, false, 1, 8, [.nilfn]⟩ := Eq.trans rfl rfl
theorem GD : LL 229 = ⟨.func, false, 1, 8, [.nilfn]⟩ := Eq.trans rfl rfl
theorem GF : LL 230 = ⟨.int .i64, false, 1, 8, [.int .i64 0]⟩ := Eq.trans rfl rfl
theorem GG : LL 232 = ⟨.func, false, 1, 8, [.nilfn]⟩ := Eq.trans rfl rfl
theorem GH : LL 233 = ⟨.func, false, 1, 8, [.nilfn]⟩ := Eq.trans rfl rfl
theorem GI : LL 234 = ⟨.func, false, 1, 8, [.nilfn]⟩ := Eq.trans rfl rfl
theorem GJ : LL 235 = ⟨.func, false, 1, 8, [.nilfn]⟩ := Eq.trans rfl rfl
theorem GK : LL 236 = ⟨.func, false, 1, 8, [.nilfn]⟩ := Eq.trans rfl rfl
theorem GL : LL 237 = ⟨.func, false, 1, 8, [.nilfn]⟩ := Eq.trans rfl rfl
theorem GM : LL 238 = ⟨.int .u64, false, 1, 8, [.int .u64 0]⟩ := Eq.trans rfl rfl
theorem GN : LL 239 = ⟨.func, false, 1, 8, [.nilfn]⟩ := Eq.trans rfl rfl
theorem GO : LL 240 = ⟨.func, false, 1, 8, [.nilfn]⟩ := Eq.trans rfl rfl
theorem GP : LL 241 = ⟨.func, false, 1, 8, [.nilfn]⟩ := Eq.trans rfl rfl
theorem GQ : LL 242 = ⟨.ptr, false, 1, 8, [.nil]⟩ := Eq.trans rfl rfl
theorem GR : LL 243 = ⟨.func, false, 1, 8, [.nilfn]⟩ := Eq.trans rfl rfl
theorem GS : LL 244 = ⟨.func, false, 1, 8, [.nilfn]⟩ := Eq.trans rfl rfl
theorem GU : LL 246 = ⟨.func, false, 1, 8, [.nilfn]⟩ := Eq.trans rfl rfl
theorem GV : LL 247 = ⟨.ptr, false, 1, 8, [.nil]⟩ := Eq.trans rfl rfl
theorem GW : LL 248 = ⟨.func, false, 1, 8, [.nilfn]⟩ := Eq.trans rfl rfl
theorem GX : LL 249 = ⟨.func, false, 1, 8, [.nilfn]⟩ := Eq.trans rfl rfl
theorem GY : LL 250 = ⟨.func, false, 1, 8, [.nilfn]⟩ := Eq.trans rfl rfl
theorem GZ : LL 251 = ⟨.func, false, 1, 8, [.nilfn]⟩ := Eq.trans rfl rfl
theorem G1 : LL 252 = ⟨.struct [(0, 17), (1, 17), (2, 17), (3, 9)], true, 4, 40, [.nil, .nil, .nil, .str ByteArray.empty]⟩ := Eq.trans rfl rfl
theorem G3 : LL 253 = ⟨.struct [(0, 17), (1, 17), (2, 17), (3, 9)], true, 4, 40, [.nil, .nil, .nil, .str ByteArray.empty]⟩ := Eq.trans rfl rfl
theorem G4 : LL 254 = ⟨.array 0 16, true, 0, 0, []⟩ := Eq.trans rfl rfl
theorem G5 : LL 257 = ⟨.int .u8, false, 1, 1, [.int .u8 0]⟩ := Eq.trans rfl rfl
theorem G6 : LL 258 = ⟨.int .u8, false, 1, 1, [.int .u8 0]⟩ := Eq.trans rfl rfl
theorem G7 : LL 259 = ⟨.func, false, 1, 8, [.nilfn]⟩ := Eq.trans rfl rfl
theorem G8 : LL 260 = ⟨.ptr, false, 1, 8, [.nil]⟩ := Eq.trans rfl rfl
theorem G9 : LL 261 = ⟨.int .i32, false, 1, 4, [.int .i32 0]⟩ := Eq.trans rfl rfl
theorem Ha : LL 262 = ⟨.int .i32, false, 1, 4, [.int .i32 0]⟩ := Eq.trans rfl rfl
theorem Hb : LL 263 = ⟨.struct [(0, 12), (1, 12), (2, 223), (3, 257), (4, 5), (5, 5), (6, 258), (7, 259), (8, 260), (9, 261), (10, 262)], true, 11, 48, [.int .u64 0, .int .u64 0, .int .u32 0, .int .u8 0, .int .u8 0, .int .u8 0, .int .u8 0, .nilfn, .nil, .int .i32 0, .int .i32 0]⟩ := Eq.trans rfl rfl
theorem Hc : LL 264 = ⟨.struct [(0, 12), (1, 12), (2, 223), (3, 257), (4, 5), (5, 5), (6, 258), (7, 259), (8, 260), (9, 261), (10, 262)], true, 11, 48, [.int .u64 0, .int .u64 0, .int .u32 0, .int .u8 0, .int .u8 0, .int .u8 0, .int .u8 0, .nilfn, .nil, .int .i32 0, .int .i32 0]⟩ := Eq.trans rfl rfl
@[go_sem] def fp3 : List Nat := [0, 1, 2, 4, 5, 6, 7, 8, 9, 11, 12, 14, 18, 29, 41, 42, 43, 44, 90, 95, 139]
@[go_sem] def fp14 : List Nat := [0, 1, 4, 5]
@[go_sem] def fp15 : List Nat := [0, 1, 2, 3, 4, 5, 6, 8, 24, 27, 28, 29, 38, 41, 42, 43, 44, 49, 59, 67]
@[go_sem] def fp16 : List Nat := [0, 2]
@[go_sem] def fp17 : List Nat := [0, 1, 2, 4, 5, 6, 7, 8, 9, 10, 11, 19, 23, 43]
@[go_sem] def fp18 : List Nat := [0, 1, 2, 3, 4, 5, 7, 36, 41, 62, 67, 128]
@[go_sem] def fp19 : List Nat := [0, 1, 2, 4, 5, 6, 10, 19, 37]
@[go_sem] def fp20 : List Nat := [0, 1, 4, 5]
@[go_sem] def fp24 : List Nat := [0, 1, 4, 5, 10, 14, 25]
@[go_sem] def fp25 : List Nat := [0, 1, 2, 6, 7, 8, 25]
@[go_sem] def fp29 : List Nat := [0, 2, 3, 4, 5, 8, 16, 27, 41]
@[go_sem] def fp30 : List Nat := [0, 1, 4, 5, 6, 7, 8, 13, 17, 69, 74, 87]
@[go_sem] def fp32 : List Nat := [0, 1, 2, 4, 5, 6, 7, 8, 9, 13, 41]
@[go_sem] def fp33 : List Nat := [0, 1, 2, 3, 4, 33, 35, 36, 37, 38, 52]
@[go_sem] def fp35 : List Nat := [0, 2, 3, 7, 15]
@[go_sem] def fp36 : List Nat := [0, 2, 3, 4, 5, 6, 7, 8, 10, 13, 31, 48, 56, 64, 72, 80, 102, 124, 141]
@[go_sem] def fp37 : List Nat := [0, 1, 2, 4, 5, 6, 7, 8, 9, 15, 19, 20, 21, 30]
@[go_sem] def fp38 : List Nat := [0, 1, 2, 3, 6, 7, 8, 9, 10, 11, 12, 13, 19, 20, 21, 22, 31, 50, 58, 74]
@[go_sem] def fp39 : List Nat := [0, 2, 3, 4, 8, 26, 29, 42]
@[go_sem] def fp40 : List Nat := [0, 2, 3, 7, 25]
@[go_sem] def fp41 : List Nat := [0, 1, 4, 5, 9, 17]
@[go_sem] def fp42 : List Nat := [0, 1, 4, 5, 6, 14, 31]
@[go_sem] def fp43 : List Nat := [0, 1, 4, 5, 9, 40]
@[go_sem] def fp44 : List Nat := [0, 2, 3, 4, 5, 8, 12]
@[go_sem] def fp45 : List Nat := [0, 1, 2, 6, 7, 8, 9, 10, 23, 39, 45]
@[go_sem] def fp48 : List Nat := [0, 2, 3, 21, 43]
@[go_sem] def fp49 : List Nat := [0, 2]
@[go_sem] def fp50 : List Nat := [0, 1, 2, 10]
@[go_sem] def fp51 : List Nat := [0, 1, 4, 5, 6, 8, 10, 18, 23, 24, 25, 26, 45]
@[go_sem] def fp52 : List Nat := [0, 2, 3, 5, 8, 9, 10, 11, 12]
@[go_sem] def fp53 : List Nat := [0, 2, 3, 5, 7, 8, 9, 10, 28]
@[go_sem] def fp54 : List Nat := [0, 2, 3, 5, 6, 7, 24]
@[go_sem] def fp55 : List Nat := [0, 1, 4, 5, 7, 8, 9, 16]
@[go_sem] def fp56 : List Nat := [0, 1, 4]
@[go_sem] def fp57 : List Nat := [0, 1, 2, 3]
@[go_sem] def fp58 : List Nat := [0, 1, 2, 3, 4, 5, 7, 9, 11, 12, 13, 14, 26]
@[go_sem] def fp59 : List Nat := [0, 2, 3, 4, 5, 6, 14, 18, 26, 43, 47, 55]
@[go_sem] def fp60 : List Nat := [0, 2, 3, 4, 5, 9, 32]
@[go_sem] def fp61 : List Nat := [0, 1, 2, 4, 5, 6, 7, 18, 25]
@[go_sem] def fp62 : List Nat := [0, 1, 3, 4, 5, 10, 20, 34, 50]
@[go_sem] def fp63 : List Nat := [0, 1, 3, 4, 9, 20, 30, 47]
@[go_sem] def fp64 : List Nat := [0, 1, 3, 4, 5, 10, 21, 39, 46, 48, 51, 54]
@[go_sem] def fp65 : List Nat := [0, 1, 2, 10]
@[go_sem] def fp66 : List Nat := [0, 1, 2, 3, 4, 5, 8]
@[go_sem] def fp67 : List Nat := [0, 1, 2, 6, 7, 8, 25]
@[go_sem] def fp68 : List Nat := [0, 2]
@[go_sem] def fp69 : List Nat := [0, 2]
@[go_sem] def fp70 : List Nat := [0, 1, 2, 6, 7, 8, 9, 10, 11, 18, 24, 34, 75, 93, 99]
@[go_sem] def fp71 : List Nat := [0, 1, 2, 3, 4, 7, 18]
@[go_sem] def fp72 : List Nat := [0, 2]
@[go_sem] def fp73 : List Nat := [0, 1, 2, 3, 8, 9, 10, 11, 12, 18, 19, 26, 32, 44, 52, 67]
@[go_sem] def fp77 : List Nat := [0, 2, 3, 30, 40, 43, 49]
@[go_sem] def fp78 : List Nat := [0, 1, 3, 4]
@[go_sem] def fp79 : List Nat := [0, 2, 3, 4, 5, 6, 14, 15, 16, 17, 18, 32, 45]
@[go_sem] def fp80 : List Nat := [0, 1, 4, 5, 6, 7, 8, 9, 13, 14, 15, 16, 22, 44]
@[go_sem] def fp81 : List Nat := [0, 1, 2, 3, 5, 7, 13, 14, 15, 16, 31, 32, 33, 34]
@[go_sem] def fp82 : List Nat := [0, 2, 4]
@[go_sem] def fp83 : List Nat := [0, 2]
@[go_sem] def fp84 : List Nat := [0, 2]
@[go_sem] def fp85 : List Nat := [0, 1, 4, 5, 7, 8, 9, 16]
@[go_sem] def fp86 : List Nat := [0, 1, 2, 3, 4, 5, 6, 23, 24, 42, 59, 78, 125]
@[go_sem] def fp87 : List Nat := [0, 1, 2, 6, 7, 8, 9, 10, 11, 16, 25, 42, 52]
@[go_sem] def fp88 : List Nat := [0, 1, 3, 4, 5, 6, 7, 16]
@[go_sem] def fp89 : List Nat := [0, 1, 3, 4, 5, 6, 7, 8, 9, 10, 11, 30, 38, 51, 65, 76, 87]
@[go_sem] def fp90 : List Nat := [0, 1, 3, 4, 5, 6, 7, 8, 14, 22, 30, 37, 48, 56]
@[go_sem] def fp91 : List Nat := [0, 1, 4]
@[go_sem] def fp92 : List Nat := [0, 1, 2, 6, 19]
@[go_sem] def fp93 : List Nat := [0, 1, 4, 5, 12, 24]
@[go_sem] def fp94 : List Nat := [0, 1, 2, 4]
@[go_sem] def fp95 : List Nat := [0, 1, 2, 4, 8]
@[go_sem] def fp96 : List Nat := [0, 1, 2, 3, 6, 7, 8, 14, 27]
@[go_sem] def fp97 : List Nat := [0, 1, 4, 5, 6, 13]
@[go_sem] def fp98 : List Nat := [0, 1, 2, 3, 5, 8, 9, 10, 11, 12, 13, 17, 30, 43, 59]
@[go_sem] def fp106 : List Nat := [0, 2, 3, 4, 5, 6, 11, 22, 32, 42, 52, 90]
@[go_sem] def fp107 : List Nat := [0, 1, 2, 3, 4, 12, 13, 21, 22, 55, 58, 62, 63, 71, 72]
@[go_sem] def fp108 : List Nat := [0, 1, 4, 5, 10, 12, 13, 14, 24]
@[go_sem] def fp109 : List Nat := [0, 1, 4, 5, 6, 7, 17, 20]
@[go_sem] def fp110 : List Nat := [0, 1, 2, 4, 6, 7, 8, 9, 15, 21, 22, 23, 24]
@[go_sem] def fp111 : List Nat := [0, 1, 2, 3, 4, 5, 6, 7, 8, 12]
@[go_sem] def fp112 : List Nat := [0, 2, 3, 5, 6, 7, 10, 11, 12, 13, 16, 17, 18]
@[go_sem] def fp113 : List Nat := [0, 1, 4, 5, 6, 12]
@[go_sem] def fp114 : List Nat := [0, 2, 3, 5, 6, 7, 8, 9, 10, 11, 14, 15, 16]
@[go_sem] def fp115 : List Nat := [0, 2, 3, 5, 6, 7, 8, 9]
@[go_sem] def fp116 : List Nat := [0, 1, 4, 5, 6, 11, 18]
@[go_sem] def fp117 : List Nat := [0, 1, 4, 5, 7, 8, 9, 16]
@[go_sem] def fp118 : List Nat := [0, 2, 4]
@[go_sem] def fp119 : List Nat := [0, 1, 2, 3, 6, 7, 8, 10, 12, 13, 15, 22, 23, 25, 26, 27, 28, 44, 52, 55, 56, 57, 58, 67, 70, 71, 72, 73, 84]
@[go_sem] def fp120 : List Nat := [0, 1, 4, 5, 9, 20]
@[go_sem] def fp133 : List Nat := [0, 2, 3, 4, 14, 19, 24, 40, 72, 85, 105]
@[go_sem] def fp134 : List Nat := [0, 2, 3, 4, 5, 6, 35, 57, 61, 63, 80, 116]
@[go_sem] def fp135 : List Nat := [0, 2, 4]
@[go_sem] def fp136 : List Nat := [0, 1, 2, 3, 4, 5, 6, 7]
@[go_sem] def fp137 : List Nat := [0, 1, 2, 4]
@[go_sem] def fp138 : List Nat := [0, 1, 4, 5]
@[go_sem] def fp139 : List Nat := [0, 1, 2, 3, 4, 6, 7, 8, 9, 10, 12, 13, 14, 24, 33, 50]
@[go_sem] def fp150 : List Nat := [0, 2, 3, 8, 39]
@[go_sem] def fp151 : List Nat := [0, 2, 3, 4, 5, 6, 7, 8, 31, 65, 83, 99, 113, 116, 121]
@[go_sem] def fp152 : List Nat := [0, 1, 2, 3, 4, 7, 14]
@[go_sem] def fp153 : List Nat := [0, 2, 3, 4, 9]
@[go_sem] def fp154 : List Nat := [0, 2, 3, 29, 38, 57]
@[go_sem] def fp155 : List Nat := [0, 1, 4, 5, 9, 16]
@[go_sem] def fp156 : List Nat := [0]
@[go_sem] def fp157 : List Nat := [0, 2, 3, 4, 5, 6, 7, 29, 32, 56, 59, 62, 65, 78, 120, 126]
@[go_sem] def fp158 : List Nat := [0, 2, 3, 4, 23, 70]
@[go_sem] def fp159 : List Nat := [0, 2, 3, 5, 6, 8, 9, 10, 11, 12, 20, 25, 26, 27, 28]
@[go_sem] def fp171 : List Nat := [0, 2, 4, 21]
@[go_sem] def fp172 : List Nat := [0, 1, 4, 5, 6, 13]
@[go_sem] def fp173 : List Nat := [0, 2, 3, 4, 5, 8, 14, 23]
@[go_sem] def fp174 : List Nat := [0, 2, 4, 13]
end Go.Rad
