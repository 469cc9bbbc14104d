/- Sets, nodes, and what they are as cells. -/
import Derived.Test.YtejdlelhlpnabaaDoorKREq
import Derived.Test.YtejdlelhlpnabaaDoorKRUse
import Derived.Test.YtejdlelhlpnabaaDoorKRDraw
set_option linter.all false
namespace Go.Rad
open Go

structure ISet where
  a : Int
  b : Int
  c : Int
  d : Int
  deriving DecidableEq, Inhabited

def ISet.none : ISet := ⟨0, 0, 0, 0⟩
abbrev ISet.cells (s : ISet) : List AVal := [.int .u64 s.a, .int .u64 s.b, .int .u64 s.c, .int .u64 s.d]
def ISet.word (s : ISet) (i : Nat) : Int := match i with | 0 => s.a | 1 => s.b | 2 => s.c | _ => s.d
def ISet.set (s : ISet) (i : Nat) (x : Int) : ISet := match i with | 0 => { s with a := x } | 1 => { s with b := x } | 2 => { s with c := x } | _ => { s with d := x }

abbrev ints (l : List Int) : List (List AVal) := l.map fun k => [.int .i64 k]
theorem ints_len (l : List Int) : (ints l).length = l.length := by simp [ints]
theorem ints_get (l : List Int) (i : Nat) (x : List AVal) (h : (ints l)[i]? = some x) : ∃ k, l[i]? = some k ∧ x = [.int .i64 k] := by
  unfold ints at h
  rw [List.getElem?_map] at h
  obtain ⟨k, hk, rfl⟩ := Option.map_eq_some_iff.1 h
  exact ⟨k, hk, rfl⟩

structure Node where
  op : Int
  s : ISet
  l : List Int
  lo : Int
  hi : Int
  name : ByteArray
  deriving DecidableEq, Inhabited

abbrev Node.cellsF (f : Bool) (n : Node) : List AVal := [.int .u8 n.op, .int .u64 n.s.a, .int .u64 n.s.b, .int .u64 n.s.c, .int .u64 n.s.d, .sl true f (ints n.l), .int .i64 n.lo, .int .i64 n.hi, .str n.name]
abbrev Node.cells (n : Node) : List AVal := n.cellsF false
abbrev nodes (l : List Node) : List (List AVal) := l.map Node.cells
theorem nodes_len (l : List Node) : (nodes l).length = l.length := by simp [nodes]
theorem nodes_get (l : List Node) (i : Nat) (x : List AVal) (h : (nodes l)[i]? = some x) : ∃ n, l[i]? = some n ∧ x = n.cells := by
  unfold nodes at h
  rw [List.getElem?_map] at h
  obtain ⟨k, hk, rfl⟩ := Option.map_eq_some_iff.1 h
  exact ⟨k, hk, rfl⟩

structure Df where
  name : ByteArray
  l : List Node
  deriving Inhabited
abbrev Df.cells (d : Df) : List AVal := [.str d.name, .sl true false (nodes d.l)]
abbrev defs (l : List Df) : List (List AVal) := l.map Df.cells

theorem wr_u8 {n : Int} (h0 : 0 ≤ n) (h1 : n < 256) : IntKind.u8.wrap n = n := by
  simp [IntKind.wrap, IntKind.signed, IntKind.bits]; omega
theorem wr_u64 {n : Int} (h0 : 0 ≤ n) (h1 : n < 18446744073709551616) : IntKind.u64.wrap n = n := by
  simp [IntKind.wrap, IntKind.signed, IntKind.bits]; omega
theorem wr_i64 {n : Int} (h : inI64 n) : IntKind.i64.wrap n = n := by
  unfold inI64 at h
  simp [IntKind.wrap, IntKind.signed, IntKind.bits]; omega
theorem tdiv_nat (n m : Nat) : (n : Int).tdiv (m : Int) = ((n / m : Nat) : Int) := (Int.ofNat_tdiv n m).symm
theorem tmod_nat (n m : Nat) : (n : Int).tmod (m : Int) = ((n % m : Nat) : Int) := (Int.ofNat_tmod n m).symm

/-- A contract over nothing, beside other things. -/
theorem ACall.alone {P : Program} {f : Nat} {args : List AVal} {sto : Sto} {v : AVal} (h : ACall P f args [] fun r s => r = v ∧ s = []) (ha : args.map (tr [] [] sto) = args) (hv : bk [] v = v) (hc : stoCells sto = true) :
    ACall P f args sto fun r s => r = v ∧ s = sto := by
  refine ACall.use [] [] rfl h ha rfl rfl fun r s hr => ?_
  obtain ⟨rfl, rfl⟩ := hr
  exact ⟨.inl rfl, hc, hv, rfl⟩

/-- The things that are a function's own are forgotten where it ends, but those that it keeps. -/
def sfilt (keep : List Nat) : Sto → Sto
  | [] => []
  | (i, x) :: s => if keep.contains i then (i, x) :: sfilt keep s else sfilt keep s
theorem sget_sfilt (keep : List Nat) (j : Nat) : ∀ s : Sto, sget (sfilt keep s) j = if (keep.contains j) = true then sget s j else none
  | [] => by simp only [sfilt, sget]; split <;> rfl
  | (i, x) :: s => by
    have ih := sget_sfilt keep j s
    simp only [sfilt]
    by_cases h : (keep.contains i) = true
    · rw [if_pos h]
      simp only [sget]
      by_cases e : i = j
      · subst e; rw [if_pos rfl, if_pos h, if_pos rfl]
      · rw [if_neg e, ih, if_neg e]
    · rw [if_neg h, ih]
      by_cases e : i = j
      · subst e; rw [if_neg h, if_neg h]
      · simp only [sget, if_neg e]
theorem sto_filt {G : Gh} {w : World} {s : Sto} (keep : List Nat) (h : StoOk G w s) : StoOk G w (sfilt keep s) := by
  refine ⟨fun id g o hg => ?_, fun id id' g g' o o' hg hg' => ?_⟩
  · rw [sget_sfilt] at hg
    split at hg
    · exact h.obj id g o hg
    · cases hg
  · rw [sget_sfilt] at hg hg'
    split at hg
    · split at hg'
      · exact h.apart id id' g g' o o' hg hg'
      · cases hg'
    · cases hg
theorem AGood.filt {P : Program} {f : Nat} {fn : Func} {df : List DDel} {k : List Item} {tm : Tm} {sto : Sto} {R : AVal → Sto → Prop} (keep : List Nat) (h : AGood P f fn df k tm (sfilt keep sto) R) : AGood P f fn df k tm sto R :=
  ⟨fun E G a w b h1 h2 h3 h4 h5 h6 h7 h8 h9 => h.go E G a w b h1 h2 h3 h4 h5 h6 h7 (sto_filt keep h8) h9⟩
theorem AGood.retF {P : Program} {L : Lay} {f : Nat} {fn : Func} {k : List Item} {tm : Tm} {sto : Sto} {R : AVal → Sto → Prop} (hL : LOk P L) (keep : List Nat) (rs : List ResultVar) (hr : fn.results.toList = rs) (h : vcRes L rs tm sto fun vs => R (retv vs) (sfilt keep sto)) : AGood P f fn [] (.code .ret :: k) tm sto R := by
  have h' : AGood P f fn [] (.code .ret :: k) tm sto (fun r s => R r (sfilt keep s)) := AGood.ret' hL rs hr h
  refine ⟨fun E G a w b h1 h2 h3 h4 h5 h6 h7 h8 h9 cs => ?_⟩
  obtain ⟨e, w', fr, ⟨G', cr, r, sto', x1, x2, x3, x4, x5, x6⟩, h11, h12, h13⟩ := h'.go E G a w b h1 h2 h3 h4 h5 h6 h7 h8 h9 cs
  exact ⟨e, w', fr, ⟨G', cr, r, _, x1, x2, x3, sto_filt keep x4, x5, x6⟩, h11, h12, h13⟩
theorem AGood.doneF {P : Program} {L : Lay} {f : Nat} {fn : Func} {tm : Tm} {sto : Sto} {R : AVal → Sto → Prop} (hL : LOk P L) (keep : List Nat) (rs : List ResultVar) (hr : fn.results.toList = rs) (h : vcRes L rs tm sto fun vs => R (retv vs) (sfilt keep sto)) : AGood P f fn [] [] tm sto R := by
  have h' : AGood P f fn [] [] tm sto (fun r s => R r (sfilt keep s)) := AGood.done' hL rs hr h
  refine ⟨fun E G a w b h1 h2 h3 h4 h5 h6 h7 h8 h9 cs => ?_⟩
  obtain ⟨e, w', fr, ⟨G', cr, r, sto', x1, x2, x3, x4, x5, x6⟩, h11, h12, h13⟩ := h'.go E G a w b h1 h2 h3 h4 h5 h6 h7 h8 h9 cs
  exact ⟨e, w', fr, ⟨G', cr, r, _, x1, x2, x3, sto_filt keep x4, x5, x6⟩, h11, h12, h13⟩
theorem sf_nil (keep : List Nat) : sfilt keep [] = [] := Eq.trans rfl rfl
theorem sf_cons (keep : List Nat) (i : Nat) (x : Nat × AObj) (s : Sto) : sfilt keep ((i, x) :: s) = if keep.contains i then (i, x) :: sfilt keep s else sfilt keep s := Eq.trans rfl rfl
theorem AGood.cast {P : Program} {f : Nat} {fn : Func} {df : List DDel} {k : List Item} {tm tm' : Tm} {sto sto' : Sto} {R : AVal → Sto → Prop} (h : AGood P f fn df k tm sto R) (h1 : tm' = tm) (h2 : sto' = sto) : AGood P f fn df k tm' sto' R := by
  subst h1 h2; exact h
theorem take_one {α : Type} {l : List α} {i : Nat} {k : α} (h : l[i]? = some k) : l.take (i + 1) = l.take i ++ [k] := by
  rw [List.take_add_one, h]; rfl
theorem wr_u8n {n : Nat} (h : n ≤ 255) : IntKind.u8.wrap (n : Int) = n := wr_u8 (by omega) (by omega)
theorem wr_i64n {n : Nat} (h : n ≤ 1000000000) : IntKind.i64.wrap (n : Int) = n := wr_i64 (by unfold inI64; omega)
theorem AGood.condT {P : Program} {f : Nat} {fn : Func} {df : List DDel} {k : List Item} {tm : Tm} {sto : Sto} {R : AVal → Sto → Prop} {c : Operand} {x y : Code} (hc : ev tm c = .bool true) (hok : operandOk c = true) (h : AGood P f fn df (.code x :: k) tm sto R) : AGood P f fn df (.code (.cond c x y) :: k) tm sto R :=
  .cond hc hok (fun _ => h) (fun h => by cases h)
theorem AGood.condF {P : Program} {f : Nat} {fn : Func} {df : List DDel} {k : List Item} {tm : Tm} {sto : Sto} {R : AVal → Sto → Prop} {c : Operand} {x y : Code} (hc : ev tm c = .bool false) (hok : operandOk c = true) (h : AGood P f fn df (.code y :: k) tm sto R) : AGood P f fn df (.code (.cond c x y) :: k) tm sto R :=
  .cond hc hok (fun h => by cases h) (fun _ => h)
end Go.Rad
