/- The equations by which a region is reduced, and the rules in the shape that the proofs use. -/
import Derived.Test.YtejdlelhlpnabaaDoorKRRegion
set_option linter.all false
namespace Go.Rad
open Go
variable {P : Program} {L : Lay} {q : Bool} {z : List Nat}

/-- What is left to do behind an operation, by what it takes. -/
def kv (L : Lay) (P : Program) (q : Bool) (z : List Nat) (ds : List (Option Nat)) (os : List Oper) (d : Option Nat) (tm : Tm) (sto : Sto) (K : Tm → Sto → Prop) : AVal → Prop := fun r => vc L P q z ds os (put d r tm) sto K
def kvc (L : Lay) (P : Program) (q : Bool) (z : List Nat) (ds : List (Option Nat)) (os : List Oper) (d : Option Nat) (tm : Tm) (K : Tm → Sto → Prop) : AVal → Sto → Prop := fun r s => vc L P q z ds os (put d r tm) s K
def kvs (L : Lay) (P : Program) (q : Bool) (z : List Nat) (ds : List (Option Nat)) (os : List Oper) (d : Option Nat) (tm : Tm) (K : Tm → Sto → Prop) : AVal → Sto → Prop := fun r s => frq (z.contains (d.getD 0)) r s (kvc L P q z ds os d tm K)
def ks (L : Lay) (P : Program) (q : Bool) (z : List Nat) (ds : List (Option Nat)) (os : List Oper) (d : Option Nat) (tm : Tm) (K : Tm → Sto → Prop) : Sto → Prop := fun s => vc L P q z ds os (put d .undef tm) s K
def kb (L : Lay) (P : Program) (q : Bool) (z : List Nat) (ds : List (Option Nat)) (os : List Oper) (d : Option Nat) (tm : Tm) (sto : Sto) (K : Tm → Sto → Prop) (neg : Bool) : Bool → Prop := fun b => vc L P q z ds os (put d (.bool (if neg then !b else b)) tm) sto K
/-- An operation behind a guard whose bool isn't known yet, and one that is. -/
def gd (L : Lay) (P : Program) (q : Bool) (z : List Nat) (ds : List (Option Nat)) (o : Oper) (os : List Oper) (t : Nat) (want : Bool) (tm : Tm) (sto : Sto) (K : Tm → Sto → Prop) : AVal → Prop
  | .bool b => (b = want → vc L P q z ds ({ o with guard := none } :: os) ((t, .bool want) :: tm) sto K) ∧ (b = !want → vc L P q z ds os (put o.dst (.tup []) ((t, .bool !want) :: tm)) sto K)
  | .tup [] => vc L P q z ds os (put o.dst (.tup []) tm) sto K
  | _ => False
/-- One of two values, by a bool. -/
def pk (x : AVal) (a b : AVal) (T : AVal → Prop) : Prop :=
  match x with
  | .bool x => (x = true → T a) ∧ (x = false → T b)
  | _ => False
/-- A call of what a value is. -/
def cl (P : Program) (q : Bool) (c : AVal) (args : List AVal) (sto : Sto) (T : AVal → Sto → Prop) : Prop :=
  match c with
  | .fn f cap => if q then ∃ v, ACall P f (args ++ cap) sto (fun r s => r = v ∧ s = sto) ∧ T v sto else ACall P f (args ++ cap) sto T
  | _ => False

section
variable {ds : List (Option Nat)} {os : List Oper} {d : Option Nat} {tm : Tm} {sto : Sto} {K : Tm → Sto → Prop} {ty : TypeId} {pos : String} {af : Array Edge}

theorem kv_ap (r : AVal) : kv L P q z ds os d tm sto K r = vc L P q z ds os (put d r tm) sto K := Eq.trans rfl rfl
theorem kvs_ap (r : AVal) (s : Sto) : kvs L P q z ds os d tm K r s = frq (z.contains (d.getD 0)) r s (kvc L P q z ds os d tm K) := Eq.trans rfl rfl
theorem kvs_nil (r : AVal) (s : Sto) : kvs L P q [] ds os d tm K r s = vc L P q [] ds os (put d r tm) s K := Eq.trans rfl rfl
theorem kvc_ap (r : AVal) (s : Sto) : kvc L P q z ds os d tm K r s = vc L P q z ds os (put d r tm) s K := Eq.trans rfl rfl
theorem frq_ff (r : AVal) (s : Sto) (T : AVal → Sto → Prop) : frq false r s T = T r s := by simp [frq]
def frO (g n id : Nat) (s : Sto) (T : AVal → Sto → Prop) : Option (Nat × AObj) → Prop
  | some (g', .row _ l) => g' = g ∧ n = l.length ∧ T (.sl true false l) (sdel s id)
  | _ => False
theorem frq_osl (id g n : Nat) (s : Sto) (T : AVal → Sto → Prop) : frq true (.osl id g 0 n) s T = frO g n id s T (sget s id) := by
  unfold frq
  simp only
  cases sget s id with
  | none => rfl
  | some x => obtain ⟨a, b⟩ := x; cases b <;> rfl
theorem frO_row (g n id g' esz : Nat) (l : List (List AVal)) (s : Sto) (T : AVal → Sto → Prop) : frO g n id s T (some (g', .row esz l)) = (g' = g ∧ n = l.length ∧ T (.sl true false l) (sdel s id)) := Eq.trans rfl rfl
theorem frq_sl (b q f : Bool) (l : List (List AVal)) (s : Sto) (T : AVal → Sto → Prop) : frq b (.sl q f l) s T = T (.sl q f l) s := by cases b <;> rfl
theorem frq_int (b : Bool) (k : IntKind) (n : Int) (s : Sto) (T : AVal → Sto → Prop) : frq b (.int k n) s T = T (.int k n) s := by cases b <;> rfl
theorem frq_tup (b : Bool) (vs : List AVal) (s : Sto) (T : AVal → Sto → Prop) : frq b (.tup vs) s T = T (.tup vs) s := by cases b <;> rfl
theorem ks_ap (s : Sto) : ks L P q z ds os d tm K s = vc L P q z ds os (put d .undef tm) s K := Eq.trans rfl rfl
theorem kb_ap (b : Bool) : kb L P q z ds os d tm sto K false b = vc L P q z ds os (put d (.bool b) tm) sto K := Eq.trans rfl rfl
theorem kb_ap' (b : Bool) : kb L P q z ds os d tm sto K true b = vc L P q z ds os (put d (.bool !b) tm) sto K := Eq.trans rfl rfl
theorem put_some (n : Nat) (v : AVal) : put (some n) v tm = (n, v) :: tm := Eq.trans rfl rfl
theorem put_none (v : AVal) : put none v tm = tm := Eq.trans rfl rfl
theorem vc_nil : vc L P q z ds [] tm sto K = K tm sto := by rw [vc]

theorem vc_guard (op : Op) (j : Nat) (want : Bool) (t : Nat) (h : ds[j]? = some (some t)) : vc L P q z ds (⟨d, op, ty, pos, af, some (j, want)⟩ :: os) tm sto K = gd L P q z ds ⟨d, op, ty, pos, af, some (j, want)⟩ os t want tm sto K (lk tm t) := by
  rw [vc]
  simp only [h]
  unfold gd
  cases lk tm t with
  | bool b => simp only [vc]; rfl
  | tup vs => cases vs <;> rfl
  | _ => rfl

variable {op : Op} {g : Option (Nat × Bool)} {t : Nat}
theorem gd_tt : gd L P q z ds ⟨d, op, ty, pos, af, g⟩ os t true tm sto K (.bool true) = vc L P q z ds (⟨d, op, ty, pos, af, none⟩ :: os) ((t, .bool true) :: tm) sto K := by simp [gd]
theorem gd_ff : gd L P q z ds ⟨d, op, ty, pos, af, g⟩ os t false tm sto K (.bool false) = vc L P q z ds (⟨d, op, ty, pos, af, none⟩ :: os) ((t, .bool false) :: tm) sto K := by simp [gd]
theorem gd_tf : gd L P q z ds ⟨d, op, ty, pos, af, g⟩ os t true tm sto K (.bool false) = vc L P q z ds os (put d (.tup []) ((t, .bool false) :: tm)) sto K := by simp [gd]
theorem gd_ft : gd L P q z ds ⟨d, op, ty, pos, af, g⟩ os t false tm sto K (.bool true) = vc L P q z ds os (put d (.tup []) ((t, .bool true) :: tm)) sto K := by simp [gd]
theorem gd_none (want : Bool) : gd L P q z ds ⟨d, op, ty, pos, af, g⟩ os t want tm sto K (.tup []) = vc L P q z ds os (put d (.tup []) tm) sto K := Eq.trans rfl rfl
theorem gd_split {want b : Bool} (h1 : b = want → vc L P q z ds (⟨d, op, ty, pos, af, none⟩ :: os) ((t, .bool want) :: tm) sto K) (h2 : b = !want → vc L P q z ds os (put d (.tup []) ((t, .bool !want) :: tm)) sto K) :
    gd L P q z ds ⟨d, op, ty, pos, af, g⟩ os t want tm sto K (.bool b) := ⟨h1, h2⟩

theorem pk_t {a b : AVal} {T : AVal → Prop} : pk (.bool true) a b T = T a := by simp [pk]
theorem pk_f {a b : AVal} {T : AVal → Prop} : pk (.bool false) a b T = T b := by simp [pk]
theorem pk_split {x : Bool} {a b : AVal} {T : AVal → Prop} (h1 : x = true → T a) (h2 : x = false → T b) : pk (.bool x) a b T := ⟨h1, h2⟩
theorem pk_bool {x a b : Bool} {T : AVal → Prop} (h : T (.bool (bif x then a else b))) : pk (.bool x) (.bool a) (.bool b) T := by cases x <;> simp_all [pk]

theorem vc_move (x : Operand) : vc L P q z ds (⟨d, .move x, ty, pos, af, none⟩ :: os) tm sto K = vc L P q z ds os (put d (ev tm x) tm) sto K := by rw [vc]; rfl
theorem vc_assign (x : Operand) : vc L P q z ds (⟨d, .assign x, ty, pos, af, none⟩ :: os) tm sto K = vc L P q z ds os (put d (ev tm x) tm) sto K := by rw [vc]; rfl
theorem vc_pick (c a b : Operand) : vc L P q z ds (⟨d, .pick c a b, ty, pos, af, none⟩ :: os) tm sto K = pk (ev tm c) (ev tm a) (ev tm b) (kv L P q z ds os d tm sto K) := by rw [vc]; rfl
theorem vc_alloc (e : TypeId) (n : Nat) : vc L P q z ds (⟨some n, .alloc e, ty, pos, af, none⟩ :: os) tm sto K = (0 < (L e).sz ∧ ∀ h, vc L P q z ds os ((n, .bx n h 0) :: tm) (sput sto n (h, .box (L e).zero)) K) := by rw [vc]; rfl
theorem vc_box (e : TypeId) (x : Operand) (n : Nat) : vc L P q z ds (⟨some n, .box e x, ty, pos, af, none⟩ :: os) tm sto K =
    ((ev tm x).isWhole = true ∧ (cellsOf (ev tm x)).length = (L e).sz ∧ 0 < (L e).sz ∧ ∀ h, vc L P q z ds os ((n, .bx n h 0) :: tm) (sput sto n (h, .box (cellsOf (ev tm x)))) K) := by rw [vc]; rfl
theorem vc_build (e : TypeId) (ps : Array (Nat × Operand)) : vc L P q z ds (⟨d, .build e ps, ty, pos, af, none⟩ :: os) tm sto K =
    ((L e).ag = true ∧ ∃ cs, fillC L (L e) (L e).zero (ps.toList.map fun p => (p.1, ev tm p.2)) = some cs ∧ vc L P q z ds os (put d (.agg cs) tm) sto K) := by rw [vc]; rfl
theorem vc_buildSlice (e : TypeId) (n m : Nat) (ps : Array (Nat × Operand)) : vc L P q z ds (⟨some n, .buildSlice e m ps, ty, pos, af, none⟩ :: os) tm sto K = vcBuildSlice L n e m (ps.toList.map fun p => (p.1, ev tm p.2)) sto (kvs L P q z ds os (some n) tm K) := by rw [vc]; rfl
theorem vc_load (e : TypeId) (a : Operand) : vc L P q z ds (⟨d, .load e a, ty, pos, af, none⟩ :: os) tm sto K = vcLoad L e (ev tm a) sto (kv L P q z ds os d tm sto K) := by rw [vc]; rfl
theorem vc_store (e : TypeId) (a x : Operand) : vc L P q z ds (⟨none, .store e a x, ty, pos, af, none⟩ :: os) tm sto K = vcStoreN L e (ev tm a) (ev tm x) sto (ks L P q z ds os none tm K) := by rw [vc]; rfl

def nc (x : AVal) (T : AVal → Prop) : Prop :=
  match x with
  | .bx id g off => T (.bx id g off)
  | .loc id g i off => T (.loc id g i off)
  | .ref q cs => T (.ref q cs)
  | .fn f cap => T (.fn f cap)
  | _ => False
theorem nc_bx {i g o : Nat} {T : AVal → Prop} : nc (.bx i g o) T = T (.bx i g o) := Eq.trans rfl rfl
theorem nc_loc {i g o j : Nat} {T : AVal → Prop} : nc (.loc i g o j) T = T (.loc i g o j) := Eq.trans rfl rfl
theorem nc_ref {q : Bool} {cs : List AVal} {T : AVal → Prop} : nc (.ref q cs) T = T (.ref q cs) := Eq.trans rfl rfl
theorem nc_fn {f : Nat} {cs : List AVal} {T : AVal → Prop} : nc (.fn f cs) T = T (.fn f cs) := Eq.trans rfl rfl
theorem vc_nilCheck (x : Operand) : vc L P q z ds (⟨d, .nilCheck x, ty, pos, af, none⟩ :: os) tm sto K = nc (ev tm x) (kv L P q z ds os d tm sto K) := by
  rw [vc]
  simp only [vcStep, vcOp]
  generalize ev tm x = v
  cases v <;> rfl
theorem vc_binOp (o : BinOp) (e e' : TypeId) (x y : Operand) (h : isNilSlice y = false) : vc L P q z ds (⟨d, .binOp o e x y e', ty, pos, af, none⟩ :: os) tm sto K = vcBin L o e (ev tm x) (ev tm y) (kv L P q z ds os d tm sto K) := by
  rw [vc]; simp only [vcStep, vcOp, h, Bool.false_eq_true, if_false]; rfl
theorem vc_bin_tmp (o : BinOp) (e e' : TypeId) (x : Operand) (n : Nat) : vc L P q z ds (⟨d, .binOp o e x (.tmp n) e', ty, pos, af, none⟩ :: os) tm sto K = vcBin L o e (ev tm x) (ev tm (.tmp n)) (kv L P q z ds os d tm sto K) := vc_binOp o e e' x _ rfl
theorem vc_bin_int (o : BinOp) (e e' : TypeId) (x : Operand) (k : IntKind) (n : Int) : vc L P q z ds (⟨d, .binOp o e x (.const (.int k n)) e', ty, pos, af, none⟩ :: os) tm sto K = vcBin L o e (ev tm x) (ev tm (.const (.int k n))) (kv L P q z ds os d tm sto K) := vc_binOp o e e' x _ rfl
theorem vc_bin_bool (o : BinOp) (e e' : TypeId) (x : Operand) (b : Bool) : vc L P q z ds (⟨d, .binOp o e x (.const (.bool b)) e', ty, pos, af, none⟩ :: os) tm sto K = vcBin L o e (ev tm x) (ev tm (.const (.bool b))) (kv L P q z ds os d tm sto K) := vc_binOp o e e' x _ rfl
theorem vc_bin_str (o : BinOp) (e e' : TypeId) (x : Operand) (b : ByteArray) : vc L P q z ds (⟨d, .binOp o e x (.const (.string b)) e', ty, pos, af, none⟩ :: os) tm sto K = vcBin L o e (ev tm x) (ev tm (.const (.string b))) (kv L P q z ds os d tm sto K) := vc_binOp o e e' x _ rfl
theorem vc_bin_agg (o : BinOp) (e e' : TypeId) (x : Operand) (b : Array Value) : vc L P q z ds (⟨d, .binOp o e x (.const (.agg b)) e', ty, pos, af, none⟩ :: os) tm sto K = vcBin L o e (ev tm x) (ev tm (.const (.agg b))) (kv L P q z ds os d tm sto K) := vc_binOp o e e' x _ rfl
theorem vc_eqNil (e e' : TypeId) (x : Operand) (l c : Nat) : vc L P q z ds (⟨d, .binOp .eql e x (.const (.slice none l c)) e', ty, pos, af, none⟩ :: os) tm sto K = vcNil L e (ev tm x) (kb L P q z ds os d tm sto K false) := by
  rw [vc]; rfl
theorem vc_neNil (e e' : TypeId) (x : Operand) (l c : Nat) : vc L P q z ds (⟨d, .binOp .neq e x (.const (.slice none l c)) e', ty, pos, af, none⟩ :: os) tm sto K = vcNil L e (ev tm x) (kb L P q z ds os d tm sto K true) := by
  rw [vc]; rfl
theorem vc_unOp (o : UnOp) (e : TypeId) (x : Operand) : vc L P q z ds (⟨d, .unOp o e x, ty, pos, af, none⟩ :: os) tm sto K = vcUn o (ev tm x) (kv L P q z ds os d tm sto K) := by rw [vc]; rfl
theorem vc_convert (e e' : TypeId) (x : Operand) : vc L P q z ds (⟨d, .convert e e' x, ty, pos, af, none⟩ :: os) tm sto K = vcConvert L e e' (ev tm x) (kv L P q z ds os d tm sto K) := by rw [vc]; rfl
theorem vc_makeFunc (f : Nat) (cap : Array Operand) : vc L P q z ds (⟨d, .makeFunc (.func f) #[] cap, ty, pos, af, none⟩ :: os) tm sto K = vc L P q z ds os (put d (.fn f (cap.toList.map (ev tm))) tm) sto K := by
  rw [vc]
  simp [vcStep, vcOp, isMk]
theorem vc_makeMap (e : TypeId) (n : Nat) : vc L P q z ds (⟨some n, .makeMap e none, ty, pos, af, none⟩ :: os) tm sto K = ((∃ k v, (L e).ty = .map k v) ∧ ∀ h, vc L P q z ds os ((n, .map n h) :: tm) (sput sto n (h, .mp [])) K) := by rw [vc]; rfl
theorem vc_makeSlice (e : TypeId) (l c : Operand) (n : Nat) : vc L P q z ds (⟨some n, .makeSlice e l c, ty, pos, af, none⟩ :: os) tm sto K = vcMake L n e (ev tm l) (ev tm c) sto (kvs L P q z ds os (some n) tm K) := by rw [vc]; rfl
theorem vc_slice (e : TypeId) (x : Operand) (lo hi mx : Option Operand) : vc L P q z ds (⟨d, .slice e x lo hi mx, ty, pos, af, none⟩ :: os) tm sto K = ((mx.isSome = true → hi.isSome = true) ∧ vcSlice L e (ev tm x) (lo.map (ev tm)) (hi.map (ev tm)) (mx.map (ev tm)) sto (kv L P q z ds os d tm sto K)) := by rw [vc]; rfl
theorem vc_fieldAddr (e : TypeId) (x : Operand) (i : Nat) : vc L P q z ds (⟨d, .fieldAddr e x i, ty, pos, af, none⟩ :: os) tm sto K = vcField (L e) (ev tm x) i (kv L P q z ds os d tm sto K) := by rw [vc]; rfl
theorem vc_field (e : TypeId) (x : Operand) (i : Nat) : vc L P q z ds (⟨d, .field e x i, ty, pos, af, none⟩ :: os) tm sto K = vcFieldOf L e (ev tm x) i (kv L P q z ds os d tm sto K) := by rw [vc]; rfl
theorem vc_indexAddr (e : TypeId) (x i : Operand) : vc L P q z ds (⟨d, .indexAddr e x i, ty, pos, af, none⟩ :: os) tm sto K = vcIndexAddr L e (ev tm x) (ev tm i) sto (kv L P q z ds os d tm sto K) := by rw [vc]; rfl
theorem vc_index (e : TypeId) (x i : Operand) : vc L P q z ds (⟨d, .index e x i, ty, pos, af, none⟩ :: os) tm sto K = vcIndex L e (ev tm x) (ev tm i) (kv L P q z ds os d tm sto K) := by rw [vc]; rfl
theorem vc_lookup (e : TypeId) (m k : Operand) (ok : Bool) : vc L P q z ds (⟨d, .lookup e m k ok, ty, pos, af, none⟩ :: os) tm sto K = vcLookup L e (ev tm m) (ev tm k) ok sto (kv L P q z ds os d tm sto K) := by rw [vc]; rfl
theorem vc_mapUpdate (e : TypeId) (m k x : Operand) : vc L P q z ds (⟨none, .mapUpdate e m k x, ty, pos, af, none⟩ :: os) tm sto K = vcMapUpdate L e (ev tm m) (ev tm k) (nrmV (ev tm x)) sto (ks L P q z ds os none tm K) := by rw [vc]; rfl
theorem vc_extract (x : Operand) (i : Nat) : vc L P q z ds (⟨d, .extract x i, ty, pos, af, none⟩ :: os) tm sto K = vcExtract (ev tm x) i (kv L P q z ds os d tm sto K) := by rw [vc]; rfl
theorem vc_builtin (b : Builtin) (args : Array Operand) (ts : Array TypeId) (n : Nat) : vc L P q z ds (⟨some n, .call ⟨.builtin b, args, ts⟩, ty, pos, af, none⟩ :: os) tm sto K = vcBuiltin L n b ts.toList (args.toList.map (ev tm)) sto (kvs L P q z ds os (some n) tm K) := by rw [vc]; rfl
theorem vc_call (c : Operand) (args : Array Operand) (ts : Array TypeId) : vc L P q z ds (⟨d, .call ⟨.value c, args, ts⟩, ty, pos, af, none⟩ :: os) tm sto K = cl P q (ev tm c) (args.toList.map (ev tm)) sto (kvs L P q z ds os d tm K) := by
  rw [vc]; rfl
theorem cl_fn {f : Nat} {cap args : List AVal} {T : AVal → Sto → Prop} : cl P false (.fn f cap) args sto T = ACall P f (args ++ cap) sto T := Eq.trans rfl rfl
theorem cl_fq {f : Nat} {cap args : List AVal} {T : AVal → Sto → Prop} : cl P true (.fn f cap) args sto T = ∃ v, ACall P f (args ++ cap) sto (fun r s => r = v ∧ s = sto) ∧ T v sto := Eq.trans rfl rfl

theorem nn_tmp (n : Nat) : isNilSlice (.tmp n) = false := Eq.trans rfl rfl
theorem nn_int (k : IntKind) (n : Int) : isNilSlice (.const (.int k n)) = false := Eq.trans rfl rfl
theorem nn_bool (b : Bool) : isNilSlice (.const (.bool b)) = false := Eq.trans rfl rfl
theorem nn_str (b : ByteArray) : isNilSlice (.const (.string b)) = false := Eq.trans rfl rfl
theorem nn_agg (b : Array Value) : isNilSlice (.const (.agg b)) = false := Eq.trans rfl rfl
theorem ev_tmp (n : Nat) : ev tm (.tmp n) = lk tm n := Eq.trans rfl rfl
theorem ev_const (v : Value) : ev tm (.const v) = ofConst v := Eq.trans rfl rfl
theorem ev_func (f : Nat) : ev tm (.func f) = .fn f [] := Eq.trans rfl rfl
theorem oc_int (k : IntKind) (n : Int) : ofConst (.int k n) = .int k n := Eq.trans rfl rfl
theorem oc_bool (b : Bool) : ofConst (.bool b) = .bool b := Eq.trans rfl rfl
theorem oc_str (s : ByteArray) : ofConst (.string s) = .str s := Eq.trans rfl rfl
theorem oc_nil : ofConst (.pointer none) = .nil := Eq.trans rfl rfl
theorem oc_sl : ofConst (.slice none 0 0) = .sl true true [] := Eq.trans rfl rfl
theorem oc_map : ofConst (.map none) = .nilmap := Eq.trans rfl rfl
theorem oc_fn : ofConst .nilFunc = .nilfn := Eq.trans rfl rfl
theorem oc_agg (l : List Value) : ofConst (.agg ⟨l⟩) = .agg (l.map ofConst1) := Eq.trans rfl rfl
theorem oc1uint (k : IntKind) (n : Int) : ofConst1 (.int k n) = .int k n := Eq.trans rfl rfl
theorem oc1ubool (b : Bool) : ofConst1 (.bool b) = .bool b := Eq.trans rfl rfl
theorem oc1ustr (s : ByteArray) : ofConst1 (.string s) = .str s := Eq.trans rfl rfl
theorem oc1unil : ofConst1 (.pointer none) = .nil := Eq.trans rfl rfl
theorem oc1usl : ofConst1 (.slice none 0 0) = .sl true true [] := Eq.trans rfl rfl
theorem lk_hit (n : Nat) (v : AVal) : lk ((n, v) :: tm) n = v := by simp [lk]
theorem lk_miss (m n : Nat) (v : AVal) (h : m ≠ n) : lk ((m, v) :: tm) n = lk tm n := by simp [lk, h]
theorem lk_nil (n : Nat) : lk [] n = .undef := Eq.trans rfl rfl
theorem sget_hit (n : Nat) (v : Nat × AObj) : sget ((n, v) :: sto) n = some v := by simp [sget]
theorem sget_miss (m n : Nat) (v : Nat × AObj) (h : m ≠ n) : sget ((m, v) :: sto) n = sget sto n := by simp [sget, h]
theorem sget_nil (n : Nat) : sget [] n = none := Eq.trans rfl rfl
theorem sput_nil (n : Nat) (v : Nat × AObj) : sput [] n v = [(n, v)] := Eq.trans rfl rfl
theorem sput_hit (n : Nat) (x v : Nat × AObj) : sput ((n, x) :: sto) n v = (n, v) :: sto := by simp [sput]
theorem sput_lt (m n : Nat) (x v : Nat × AObj) (h : n < m) : sput ((m, x) :: sto) n v = (n, v) :: (m, x) :: sto := by simp [sput, h, Nat.ne_of_gt h]
theorem sput_gt (m n : Nat) (x v : Nat × AObj) (h : m < n) : sput ((m, x) :: sto) n v = (m, x) :: sput sto n v := by simp [sput, Nat.ne_of_lt h, Nat.not_lt.2 (Nat.le_of_lt h)]
theorem sdel_nil (n : Nat) : sdel [] n = [] := Eq.trans rfl rfl
theorem sdel_hit (n : Nat) (x : Nat × AObj) : sdel ((n, x) :: sto) n = sdel sto n := by simp [sdel]
theorem sdel_miss (m n : Nat) (x : Nat × AObj) (h : m ≠ n) : sdel ((m, x) :: sto) n = (m, x) :: sdel sto n := by simp [sdel, h]
end

theorem retv_one (v : AVal) : retv [v] = v := Eq.trans rfl rfl
theorem retv_nil : retv [] = .tup [] := Eq.trans rfl rfl
theorem retv_more (u v : AVal) (l : List AVal) : retv (u :: v :: l) = .tup (u :: v :: l) := Eq.trans rfl rfl
theorem vcRes_nil {tm : Tm} {sto : Sto} {T : List AVal → Prop} : vcRes L [] tm sto T = T [] := Eq.trans rfl rfl
theorem vcRes_tmp {tm : Tm} {sto : Sto} {T : List AVal → Prop} (t : Nat) (rs : List ResultVar) : vcRes L (.tmp t :: rs) tm sto T = vcRes L rs tm sto fun vs => T (lk tm t :: vs) := Eq.trans rfl rfl
theorem vcRes_cell {tm : Tm} {sto : Sto} {T : List AVal → Prop} (a t : Nat) (rs : List ResultVar) : vcRes L (.cell a t :: rs) tm sto T = ((L t).ty ≠ .other ∧ vcLoad L t (lk tm a) sto fun v => vcRes L rs tm sto fun vs => T (v :: vs)) := Eq.trans rfl rfl

theorem AGood.ret' {f : Nat} {fn : Func} {k : List Item} {tm : Tm} {sto : Sto} {R : AVal → Sto → Prop} (hL : LOk P L) (rs : List ResultVar) (hr : fn.results.toList = rs) (h : vcRes L rs tm sto fun vs => R (retv vs) sto) :
    AGood P f fn [] (.code .ret :: k) tm sto R := .ret hL (fun d hd => by simp at hd) (by rw [runDf, hr]; exact h)

theorem AGood.done' {f : Nat} {fn : Func} {tm : Tm} {sto : Sto} {R : AVal → Sto → Prop} (hL : LOk P L) (rs : List ResultVar) (hr : fn.results.toList = rs) (h : vcRes L rs tm sto fun vs => R (retv vs) sto) :
    AGood P f fn [] [] tm sto R := .done hL (fun d hd => by simp at hd) (by rw [runDf, hr]; exact h)

/-- A region: what is to come stands behind a name. -/
theorem AGood.reg {f : Nat} {fn : Func} {df : List DDel} {k : List Item} {tm : Tm} {sto : Sto} {R : AVal → Sto → Prop} (hL : LOk P L) (z : List Nat) {id : Nat} {ops : List Oper} (ps : List Nat) (hok : okOps L fn.ntmps ops = true)
    (h : ∀ K : Tm → Sto → Prop, (∀ tm' sto', AGood P f fn df k (Rad.prune ps tm') sto' R → K tm' sto') → vc L P false z (ops.map (·.dst)) ops tm sto K) : AGood P f fn df (.code (.region id ops.toArray false) :: k) tm sto R :=
  .region hL ps hok (h _ fun _ _ h => h)
end Go.Rad
