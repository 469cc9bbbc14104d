/- A call on known things, reckoned: the contract. -/
import Derived.Test.YtjhcamnmfjkidaaKRRun
import Derived.Test.YtjhcamnmfjkidaaKRNode
import Derived.Test.YtjhcamnmfjkidaaKRGlob
import Derived.Test.YtjhcamnmfjkidaaKP09l
import Derived.Test.YtjhcamnmfjkidaaKP09r
import Derived.Test.YtjhcamnmfjkidaaKRDraw
import Derived.Test.YtjhcamnmfjkidaaKRNorm
set_option linter.all false
namespace Go.Rad
open Go
variable {P : Program} {L : Lay}
theorem quiet_ok : Quiet P := fun f args v sto h1 h2 h3 h4 => ACall.alone (ACall.none h4) (map_self fun x hx => tr_flat (List.all_eq_true.1 h1 x hx)) (bk_flat h2) h3
/-- Rows that a result holds are given away. -/
def finCells : AVal → List AVal
  | .tup vs => vs
  | v => [v]
def xFin : Nat → AVal → Sto → Option AVal
  | 0, v, _ => some v
  | k + 1, v, s =>
    match firstOsl (finCells v) with
    | none => some v
    | some id =>
      match sget s id with
      | some (g, .row _ l) => req (okFs id g l.length v && okFS id g l.length (sdel s id)) (xFin k (rf id g l v) (rfS id g l (sdel s id)))
      | _ => none
theorem fin_post {E : Gh} {R : AVal → Prop} {e : Ending} {w' : World} {r : Nat → Nat} : ∀ (k : Nat) {v v' : AVal} {s : Sto}, xFin k v s = some v' → R (mg r v') → Post E (fun v1 s1 => v1 = mg r v ∧ s1 = mgS r s) e w' → Post E (fun v1 _ => R v1) e w'
  | 0, v, v', s, h, hR, hp => by
    simp only [xFin, Option.some.injEq] at h; subst h
    exact hp.mono (.refl E) fun _ _ hx => by rw [hx.1]; exact hR
  | k + 1, v, v', s, h, hR, ⟨G', cr, r1, s1, h1, h2, h3, h4, h5, h6, h7⟩ => by
    simp only [xFin] at h
    split at h
    · cases h; exact ⟨G', cr, r1, s1, h1, h2, h3, h4, h5, by rw [h6]; exact hR⟩
    · split at h
      · rename_i g esz l hg
        simp only [req_iff, Bool.and_eq_true] at h
        obtain ⟨⟨hk1, hk2⟩, h⟩ := h
        subst h6 h7
        obtain ⟨G2, q1, q2, q3, q4⟩ := all_freeze (g := r g) (esz := esz) (l := l) h3 h4 (by rw [sget_mgS, hg]; rfl)
        refine fin_post k h hR ⟨G2, cr, _, _, h1, h2.trans q1, q2, q3, q4 _ _ h5, rf_mg hk1, ?_⟩
        rw [← sdel_mgS, ← rfS_mg _ hk2]
      · cases h
def rowIds : Sto → List Nat
  | [] => []
  | (i, _, .row _ _) :: s => i :: rowIds s
  | _ :: s => rowIds s
theorem sfilt_mg {r : Nat → Nat} {keep : List Nat} : ∀ s : Sto, mgS r (sfilt keep s) = sfilt keep (mgS r s)
  | [] => rfl
  | (i, g, o) :: s => by
    have ih := sfilt_mg (r := r) (keep := keep) s
    simp only [sf_cons, mgS]
    split
    · simp only [mgS, ih]
    · exact ih
/-- A closed call that is reckoned, and tells a thing that leads nowhere. -/
def ran (x : Option (AVal × Sto × Nat)) : Option AVal := x.bind fun x => (xFin 4 x.1 (sfilt (rowIds x.2.1) x.2.1)).bind fun v => req (flat v) (some v)
theorem run_c (hL : LOk P L) (hm : P.follows .mixedOrders = true) (hn : (P.funcs.all fun fn => !(fn.name == "runtime.NumGoroutine")) = true) (tab : Nat → Tab) {kn : Known1} (hkn : KnOk P kn) (fs : List Nat) (hfs : fs.all (fnOk P L tab) = true) (fuel k : Nat) {f : Nat} {args : List AVal} {v : AVal} (ha : args.all flat = true) (h : ran (xCall P L tab kn fuel fs k false f args [] 1000) = some v) :
    ACall P f args [] fun r s => r = v ∧ s = [] := by
  simp only [ran, Option.bind_eq_some_iff, req_iff, Option.some.injEq] at h
  obtain ⟨⟨u, s, n⟩, h1, u', h2, h3, rfl⟩ := h
  have h4 := (xCall_ok hL hm hn quiet_ok hkn hfs k false f args [] 1000 _ _ _ h1).2.2 id
  rw [map_self fun x hx => mg_id (flat_bd (List.all_eq_true.1 ha x hx))] at h4
  refine ACall.none ⟨h4.able, fun G w cargs a b c => (h4.calls G w cargs a b c).mono fun e w' p => ?_⟩
  obtain ⟨G', cr, r1, s1, x1, x2, x3, x4, x5, r', _, rfl, rfl⟩ := p
  exact fin_post (R := fun r => r = u') 4 h2 (mg_id (flat_bd h3)) ⟨G', cr, _, _, x1, x2, x3, sto_filt (rowIds s) x4, x5, rfl, (sfilt_mg s).symm⟩
end Go.Rad
/- What the run of closed calls must know of each function. -/
namespace Go.Rad
open Go
def rtabs : List Tab := [
  ⟨[], []⟩,
  ⟨[], []⟩,
  ⟨[], []⟩,
  ⟨[0, 2, 3, 4, 5, 6, 7, 8, 9, 10, 11, 12, 14, 16, 17, 19, 29, 31, 32, 33, 34, 45, 50, 51, 52, 53, 66, 67, 68, 69, 73, 74, 75, 76], []⟩,
  ⟨[0, 2, 3, 4, 5, 6, 7, 8, 9, 10, 11, 12, 14, 16, 18, 32, 42, 85, 87, 88, 89, 90, 101, 102, 103, 104, 111, 112, 113, 114, 118, 123, 124, 125, 126, 132, 167], []⟩,
  ⟨[0, 2, 3, 4, 5, 6, 7, 8, 9, 10, 11, 12, 13, 22, 24, 25, 26, 27, 75, 77, 78, 79, 80, 138], [(20, ⟨50, [0, 1, 2, 3, 4, 5, 6, 7, 8, 9, 10, 11, 12, 13, 14, 15, 16, 17, 18, 19, 20, 21, 22, 23, 24, 25, 26, 27, 28, 29, 30, 31, 32, 33, 34, 35, 36, 37, 38, 39, 40, 41, 42, 43, 44, 45, 46, 47, 48, 49], [95], [], [], []⟩)]⟩,
  ⟨[0, 1, 2, 5, 6, 7, 8, 9, 10, 11, 24], []⟩,
  ⟨[0, 1, 2, 3], [(1, ⟨10, [0, 1, 2, 3, 4, 5, 6, 7, 8, 9, 10, 11], [], [], [1], [4, 6, 8]⟩), (2, ⟨0, [0, 1, 2, 3, 4, 5, 6, 7, 8], [], [], [], []⟩)]⟩,
  ⟨[0, 1, 2, 3, 4], []⟩,
  ⟨[0, 2, 3, 4, 5, 6, 7, 8, 9, 19], []⟩,
  ⟨[0, 2, 3, 4, 5, 6, 7, 8, 10, 17, 19, 20, 21, 22, 34, 35, 36, 37, 49], []⟩,
  ⟨[0, 1, 2, 3, 4, 5, 6, 7, 22, 27, 80], []⟩,
  ⟨[0, 2, 3, 4, 7, 11, 36], []⟩,
  ⟨[0, 2, 3, 7, 15], []⟩,
  ⟨[0, 2, 3, 4, 9], [(5, ⟨6, [0, 1, 2, 3, 4, 5, 6], [], [], [], []⟩)]⟩,
  ⟨[0, 1, 2, 15], []⟩,
  ⟨[0, 1, 2, 3, 4, 17, 22, 69], []⟩,
  ⟨[0, 1, 4, 5, 8], []⟩,
  ⟨[0, 2], []⟩,
  ⟨[0, 1, 4], []⟩,
  ⟨[0, 2], []⟩,
  ⟨[0, 2, 4, 7, 8, 9, 10, 11, 42], []⟩,
  ⟨[0, 1, 2, 6, 7, 9, 10, 11, 12, 13, 15, 17, 21, 22, 23, 24, 34, 45, 46, 47, 48, 53, 54, 55, 56, 72, 80, 100, 104, 132, 154, 163, 164, 165, 166], [(23, ⟨17, [0, 1, 2, 3, 4, 5, 6, 7, 8, 9, 10, 11, 12, 13, 14, 15, 16, 17, 18, 19], [], [], [], []⟩), (34, ⟨11, [0, 1, 2, 3, 4, 5, 6, 7, 8, 9, 10, 11, 12, 13], [], [], [], []⟩), (15, ⟨10, [0, 1, 2, 3, 4, 5, 6, 7, 8, 9, 10, 11, 12], [], [], [], []⟩)]⟩,
  ⟨[0, 1, 4, 5], []⟩,
  ⟨[0, 1, 4, 5, 10, 14, 25], [(6, ⟨9, [0, 1, 2, 3, 4, 5, 6, 7, 8], [], [], [], []⟩)]⟩,
  ⟨[0, 1, 3, 4], []⟩,
  ⟨[0, 2, 3, 4, 5, 6, 14, 18, 26, 43, 47, 55], []⟩,
  ⟨[0, 1, 2, 4, 8], []⟩,
  ⟨[0, 1, 4, 5, 7, 8, 9, 10, 11, 21], []⟩,
  ⟨[0, 1, 4], []⟩,
  ⟨[0, 1, 2, 3], []⟩,
  ⟨[0, 1, 2, 4], []⟩,
  ⟨[0, 1, 4, 5, 9, 40], [(4, ⟨29, [0, 1, 2, 3, 4, 5, 6, 7, 8, 9, 10, 11, 12, 13, 14, 15, 16, 17, 18, 19, 20, 21, 22, 23, 24, 25, 26, 27, 28], [], [], [], []⟩)]⟩,
  ⟨[0, 2, 3, 4, 5, 8, 16, 27, 41], [(8, ⟨11, [0, 1, 2, 3, 4, 5, 6, 7, 8, 9, 10], [], [], [], []⟩)]⟩,
  ⟨[0, 1, 4, 5, 6, 17, 38], []⟩,
  ⟨[0, 1, 4, 5, 7, 8, 9, 16], []⟩,
  ⟨[0, 2, 4], []⟩,
  ⟨[0, 1, 2], []⟩,
  ⟨[0, 1, 3, 4, 5], [(2, ⟨7, [0, 1, 2, 3, 4, 5, 6, 7, 8, 9, 10], [18], [], [], []⟩)]⟩,
  ⟨[0, 1, 2, 7, 8, 9, 10, 11], [(3, ⟨14, [0, 1, 2, 3, 4, 5, 6, 7, 8, 9, 10, 11, 12, 13, 14, 15, 16, 17], [], [], [0], [16]⟩)]⟩,
  ⟨[0, 1, 2, 4, 5, 6, 7, 26, 34], []⟩,
  ⟨[0, 1, 2, 3, 4], [(1, ⟨14, [0, 1, 2, 3, 4, 5, 6, 7, 8, 9, 11, 12, 13, 14, 10, 15, 16, 17], [], [], [2, 3], [16, 18]⟩)]⟩,
  ⟨[0, 2, 3, 5, 6, 8, 9, 10, 11, 12, 20, 25, 26, 27, 28], []⟩,
  ⟨[0, 2], []⟩,
  ⟨[0, 2, 3, 4, 5, 8, 13, 25, 32, 44], [(6, ⟨10, [0, 1, 2, 3, 4, 5, 6, 7, 8, 9], [], [], [], []⟩), (11, ⟨10, [0, 1, 2, 3, 4, 5, 6, 7, 8, 9], [], [], [], []⟩)]⟩,
  ⟨[0, 1, 2, 3, 4, 5, 6, 23, 24, 42, 59, 78, 125], []⟩,
  ⟨[0, 1, 2, 6, 7, 8, 9, 10, 11, 16, 25, 42, 52], []⟩,
  ⟨[0, 1, 2, 4], []⟩,
  ⟨[0, 1, 4, 5, 7, 8, 9, 16], []⟩,
  ⟨[0, 2, 3, 21, 43], [(2, ⟨15, [0, 1, 2, 3, 4, 5, 6, 7, 8, 9, 10, 11, 12, 13, 14], [], [], [], []⟩)]⟩,
  ⟨[0, 2], [(1, ⟨18, [0, 1, 2, 3, 4, 5, 6, 7, 8, 9, 10, 11, 12, 13, 14, 15, 16, 17], [], [], [], []⟩)]⟩,
  ⟨[0, 1, 2, 10], []⟩,
  ⟨[0, 1, 4, 5, 6, 7, 18, 21, 29], []⟩,
  ⟨[0, 1, 4, 5, 6, 8, 10, 18, 23, 24, 25, 26, 45], [(7, ⟨8, [0, 1, 2, 3, 4, 5, 6, 7, 8], [], [], [], []⟩)]⟩,
  ⟨[0, 1, 4, 6, 16], []⟩,
  ⟨[0, 1, 2, 3, 8, 9, 10, 11, 12, 13, 14, 15, 16, 17, 18, 23, 29, 35, 50, 68, 72, 87, 113], [(17, ⟨12, [0, 1, 2, 3, 4, 5, 6, 7, 8, 9, 10, 11, 12, 13, 14], [], [], [], []⟩)]⟩,
  ⟨[0, 2], []⟩,
  ⟨[0, 2, 3, 7, 25], []⟩,
  ⟨[0, 2, 3, 30, 40, 43, 49], [(2, ⟨27, [0, 1, 2, 3, 4, 5, 6, 7, 8, 9, 10, 11, 12, 13, 14, 15, 16, 17, 18, 19, 20, 21, 22, 23, 24, 25, 26], [], [], [], []⟩)]⟩,
  ⟨[0, 1, 3, 4], [(1, ⟨7, [0, 1, 2, 3, 4, 5, 6, 7, 8, 9, 10], [11], [], [], []⟩)]⟩,
  ⟨[0, 1, 3, 4, 5, 6, 7, 8, 9, 10, 11, 12, 13, 36, 39, 58, 85, 116, 127, 138], [(3, ⟨10, [0, 1, 2, 3, 4, 5, 6, 7, 8, 9], [], [], [], []⟩), (12, ⟨20, [0, 1, 2, 3, 4, 5, 6, 7, 8, 9, 10, 11, 12, 13, 14, 15, 16, 17, 18, 19], [], [], [], []⟩)]⟩,
  ⟨[0, 1, 3, 4, 10], [(4, ⟨7, [0, 1, 2, 3, 4, 5, 6, 7, 8, 9, 10], [20], [], [], []⟩)]⟩,
  ⟨[0, 2, 3, 4, 5, 6, 14, 15, 16, 17, 18, 32, 45], [(10, ⟨7, [0, 1, 2, 3, 4, 5, 6], [], [], [], []⟩)]⟩,
  ⟨[0, 2, 3, 5, 7, 8, 9, 10, 28], []⟩,
  ⟨[0, 1, 4, 5, 6, 7, 8, 9, 13, 14, 15, 16, 22, 44], []⟩,
  ⟨[0, 1, 2, 6, 7, 12, 30], [(4, ⟨13, [0, 1, 2, 3, 4, 5, 6, 7, 8, 9, 10, 11, 12, 13, 14], [], [], [], []⟩), (6, ⟨15, [0, 1, 2, 3, 4, 5, 6, 7, 8, 9, 10, 11, 12, 13, 14, 15, 16, 17], [], [], [], []⟩)]⟩,
  ⟨[0, 1, 2, 6, 7, 8, 9, 10, 19, 30], [(10, ⟨17, [0, 1, 2, 3, 4, 5, 6, 7, 8, 9, 10, 11, 12, 13, 14, 15, 16, 17, 18, 19], [], [], [], []⟩)]⟩,
  ⟨[0, 1, 2, 6, 7, 8, 9, 10, 15, 33, 43], [(10, ⟨17, [0, 1, 2, 3, 4, 5, 6, 7, 8, 9, 10, 11, 12, 13, 14, 15, 16, 17, 18, 19], [], [], [], []⟩)]⟩,
  ⟨[0, 1, 2, 6, 7, 8, 9, 10, 11, 12, 32, 34, 49, 51, 54], []⟩,
  ⟨[0, 1, 2, 6, 7, 13], [(3, ⟨13, [0, 1, 2, 3, 4, 5, 6, 7, 8, 9, 10, 11, 12, 13, 14, 15], [], [], [], []⟩)]⟩,
  ⟨[0, 1, 2, 6, 7, 8, 9, 10, 14, 32, 37, 41, 61, 65, 78, 98, 103, 116], [(5, ⟨13, [0, 1, 2, 3, 4, 5, 6, 7, 8, 9, 10, 11, 12, 13, 14, 15], [], [], [], []⟩), (11, ⟨15, [0, 1, 2, 3, 4, 5, 6, 7, 8, 9, 10, 11, 12, 13, 14, 15, 16, 17], [], [], [], []⟩), (16, ⟨9, [0, 1, 2, 3, 4, 5, 6, 7, 8, 9, 10], [], [], [], []⟩), (17, ⟨15, [0, 1, 2, 3, 4, 5, 6, 7, 8, 9, 10, 11, 12, 13, 14, 15, 16, 17], [], [], [], []⟩), (22, ⟨9, [0, 1, 2, 3, 4, 5, 6, 7, 8, 9, 10], [], [], [], []⟩), (23, ⟨15, [0, 1, 2, 3, 4, 5, 6, 7, 8, 9, 10, 11, 12, 13, 14, 15, 16, 17], [], [], [], []⟩)]⟩,
  ⟨[0, 1, 4], []⟩,
  ⟨[0, 1, 2, 3, 8, 9, 10, 43, 59, 64], [(1, ⟨13, [0, 1, 2, 3, 4, 5, 6, 7, 8, 9, 10, 11, 12, 13, 14, 15], [], [], [], []⟩), (3, ⟨12, [0, 1, 2, 3, 4, 5, 6, 7, 8, 9, 10, 11, 12, 13, 14], [], [], [], []⟩), (5, ⟨12, [0, 1, 2, 3, 4, 5, 6, 7, 8, 9, 10, 11, 12, 13], [], [], [], []⟩), (8, ⟨13, [0, 1, 2, 3, 4, 5, 6, 7, 8, 9, 10, 11, 12, 13, 14, 15], [], [], [], []⟩)]⟩,
  ⟨[0, 1, 2, 3, 8, 9, 10, 11, 43, 60, 65, 112, 129, 134], [(1, ⟨13, [0, 1, 2, 3, 4, 5, 6, 7, 8, 9, 10, 11, 12, 13, 14, 15], [], [], [], []⟩), (3, ⟨12, [0, 1, 2, 3, 4, 5, 6, 7, 8, 9, 10, 11, 12, 13], [], [], [], []⟩), (5, ⟨12, [0, 1, 2, 3, 4, 5, 6, 7, 8, 9, 10, 11, 12, 13, 14], [], [], [], []⟩), (8, ⟨13, [0, 1, 2, 3, 4, 5, 6, 7, 8, 9, 10, 11, 12, 13, 14, 15], [], [], [], []⟩), (10, ⟨13, [0, 1, 2, 3, 4, 5, 6, 7, 8, 9, 10, 11, 12, 13, 14, 15], [], [], [], []⟩), (13, ⟨12, [0, 1, 2, 3, 4, 5, 6, 7, 8, 9, 10, 11, 12, 13], [], [], [], []⟩), (15, ⟨12, [0, 1, 2, 3, 4, 5, 6, 7, 8, 9, 10, 11, 12, 13, 14], [], [], [], []⟩), (18, ⟨13, [0, 1, 2, 3, 4, 5, 6, 7, 8, 9, 10, 11, 12, 13, 14, 15], [], [], [], []⟩), (21, ⟨13, [0, 1, 2, 3, 4, 5, 6, 7, 8, 9, 10, 11, 12, 13, 14, 15], [], [], [], []⟩)]⟩,
  ⟨[0, 2, 4, 8], []⟩,
  ⟨[0, 2, 4, 8, 14], []⟩,
  ⟨[0, 2], []⟩,
  ⟨[0, 2], []⟩,
  ⟨[0, 2, 3, 4, 5, 6, 11, 22, 32, 42, 52, 90], [(4, ⟨10, [0, 1, 2, 3, 4, 5, 6, 7, 8, 9], [], [], [], []⟩), (14, ⟨29, [0, 1, 2, 3, 4, 5, 6, 7, 8, 9, 10, 11, 12, 13, 14, 15, 16, 17, 18, 19, 20, 21, 22, 23, 24, 25, 26, 27, 28], [], [], [], []⟩)]⟩,
  ⟨[0, 1, 4, 5], []⟩,
  ⟨[0, 1, 2, 6, 7, 8, 9, 16, 28], []⟩,
  ⟨[0, 1, 4, 7], []⟩,
  ⟨[0, 1, 2, 3, 4, 12, 13, 21, 22, 55, 58, 62, 63, 71, 72], [(10, ⟨5, [0, 1, 2, 3, 4, 5, 6, 7], [], [], [1], [26]⟩)]⟩,
  ⟨[0, 1, 4, 5, 10, 12, 13, 14, 24], [(6, ⟨9, [0, 1, 2, 3, 4, 5, 6, 7, 8], [], [], [], []⟩)]⟩,
  ⟨[0, 2, 3, 5, 6, 7, 24], []⟩,
  ⟨[0, 1, 4, 5, 6, 7, 17, 20], []⟩,
  ⟨[0, 1, 2, 4, 6, 7, 8, 9, 15, 21, 22, 23, 24], [(7, ⟨8, [0, 1, 2, 3, 4, 5, 6, 7, 8], [], [], [], []⟩), (9, ⟨7, [0, 1, 2, 3, 4, 5, 6, 7, 8, 9, 10], [43], [], [], []⟩)]⟩,
  ⟨[0, 1, 2, 3, 8, 9, 16, 36, 52], [(3, ⟨18, [0, 1, 2, 3, 4, 5, 6, 7, 8, 9, 10, 11, 12, 13, 14, 15, 16, 17, 18, 19], [], [], [], []⟩), (5, ⟨12, [0, 1, 2, 3, 4, 5, 6, 7, 8, 9, 10, 11, 12, 13], [], [], [], []⟩), (6, ⟨21, [0, 1, 2, 3, 4, 5, 6, 7, 8, 9, 10, 11, 12, 13, 14, 15, 16, 17, 18, 19, 20, 21, 22, 23], [], [], [], []⟩)]⟩,
  ⟨[0, 2], []⟩,
  ⟨[0, 2], [(1, ⟨9, [0, 1, 2, 3, 4, 5, 6, 7, 8, 9], [], [], [], []⟩), (2, ⟨9, [0, 1, 2, 3, 4, 5, 6, 7, 8, 9], [], [], [], []⟩), (3, ⟨9, [0, 1, 2, 3, 4, 5, 6, 7, 8, 9], [], [], [], []⟩)]⟩,
  ⟨[0, 1, 2, 6], []⟩,
  ⟨[0, 1, 2, 3, 4, 10], []⟩,
  ⟨[0, 2], []⟩,
  ⟨[0, 2, 3, 4, 14, 19, 24, 40, 72, 85, 105], [(1, ⟨10, [0, 1, 2, 3, 4, 5, 6, 7, 8, 9], [], [], [], []⟩), (9, ⟨30, [0, 1, 2, 3, 4, 5, 6, 7, 8, 9, 10, 11, 12, 13, 14, 15, 16, 17, 18, 19, 20, 21, 22, 23, 24, 25, 26, 27, 28, 29], [], [], [], []⟩)]⟩,
  ⟨[0, 2, 3, 4, 5, 6, 35, 57, 61, 63, 80, 116], [(5, ⟨15, [0, 1, 2, 3, 4, 5, 6, 7, 8, 9, 10, 11, 12, 13, 14], [], [], [], []⟩), (8, ⟨15, [0, 1, 2, 3, 4, 5, 6, 7, 8, 9, 10, 11, 12, 13, 14], [], [], [], []⟩), (15, ⟨10, [0, 1, 2, 3, 4, 5, 6, 7, 8, 9], [], [], [], []⟩)]⟩,
  ⟨[0, 2], []⟩,
  ⟨[0, 2], []⟩,
  ⟨[0, 2, 4], []⟩,
  ⟨[0, 1, 2, 3, 8, 9, 18], [(1, ⟨8, [0, 1, 2, 3, 4, 5, 6, 7, 8], [], [], [], []⟩)]⟩,
  ⟨[0, 2, 3, 8, 39], []⟩,
  ⟨[0, 2, 3, 4, 5, 6, 7, 8, 31, 65, 83, 99, 113, 116, 121], [(2, ⟨16, [0, 1, 2, 3, 4, 5, 6, 7, 8, 9, 10, 11, 12, 13, 14, 15], [], [], [], []⟩), (6, ⟨26, [0, 1, 2, 3, 4, 5, 6, 7, 8, 9, 10, 11, 12, 13, 14, 15, 16, 17, 18, 19, 20, 21, 22, 23, 24, 25], [], [], [], []⟩), (9, ⟨15, [0, 1, 2, 3, 4, 5, 6, 7, 8, 9, 10, 11, 12, 13, 14], [], [], [], []⟩)]⟩,
  ⟨[0, 1, 2, 3, 4, 7, 14], []⟩,
  ⟨[0, 2, 3, 29, 38, 57], [(3, ⟨15, [0, 1, 2, 3, 4, 5, 6, 7, 8, 9, 10, 11, 12, 13, 14], [], [], [], []⟩), (8, ⟨12, [0, 1, 2, 3, 4, 5, 6, 7, 8, 9, 10, 11], [], [], [], []⟩), (12, ⟨13, [0, 1, 2, 3, 4, 5, 6, 7, 8, 9, 10, 11, 12, 13, 14], [], [], [], []⟩)]⟩,
  ⟨[0, 1, 4, 5, 9, 16], []⟩,
  ⟨[0], []⟩,
  ⟨[0, 2, 3, 4, 5, 6, 7, 29, 32, 56, 59, 62, 65, 78, 120, 126], [(1, ⟨10, [0, 1, 2, 3, 4, 5, 6, 7, 8, 9], [], [], [], []⟩), (9, ⟨10, [0, 1, 2, 3, 4, 5, 6, 7, 8, 9], [], [], [], []⟩), (18, ⟨11, [0, 1, 2, 3, 4, 5, 6, 7, 8, 9, 10], [], [], [], []⟩), (21, ⟨11, [0, 1, 2, 3, 4, 5, 6, 7, 8, 9, 10], [], [], [], []⟩), (22, ⟨12, [0, 1, 2, 3, 4, 5, 6, 7, 8, 9, 10, 11], [], [], [], []⟩)]⟩,
  ⟨[0, 2, 3, 4, 23, 70], [(3, ⟨15, [0, 1, 2, 3, 4, 5, 6, 7, 8, 9, 10, 11, 12, 13, 14], [], [], [], []⟩), (4, ⟨16, [0, 1, 2, 3, 4, 5, 6, 7, 8, 9, 10, 11, 12, 13, 14, 15], [], [], [], []⟩)]⟩,
  ⟨[0, 2, 4, 21], [(4, ⟨10, [0, 1, 2, 3, 4, 5, 6, 7, 8, 9], [], [], [], []⟩)]⟩,
  ⟨[0, 1, 4, 5, 6, 13], []⟩,
  ⟨[0, 2, 3, 4, 5, 8, 14, 23], []⟩,
  ⟨[0, 2, 4, 13], []⟩,
  ⟨[], []⟩,
  ⟨[], []⟩,
  ⟨[], []⟩,
  ⟨[], []⟩,
  ⟨[], []⟩,
  ⟨[], []⟩,
  ⟨[], []⟩,
  ⟨[], []⟩,
  ⟨[], []⟩,
  ⟨[], []⟩,
  ⟨[], []⟩,
  ⟨[], []⟩,
  ⟨[], []⟩,
  ⟨[], []⟩,
  ⟨[], []⟩,
  ⟨[], []⟩]
def rtab : Nat → Tab := fun f => rtabs.getD f ⟨[], []⟩
theorem no_num : (Go.Proofs.Try.prog.funcs.all fun fn => !(fn.name == "runtime.NumGoroutine")) = true := by decide +kernel
theorem kn_none : KnOk Go.Proofs.Try.prog (fun _ => none) := fun _ _ _ _ h => by cases h
theorem ran_c {kn : Known1} (hkn : KnOk Go.Proofs.Try.prog kn) (fs : List Nat) (hfs : fs.all (fnOk Go.Proofs.Try.prog LL rtab) = true) (fuel k : Nat) {f : Nat} {args : List AVal} {v : AVal} (ha : args.all flat = true) (h : ran (xCall Go.Proofs.Try.prog LL rtab kn fuel fs k false f args [] 1000) = some v) : ACall Go.Proofs.Try.prog f args [] fun r s => r = v ∧ s = [] := run_c LL_ok mixed no_num rtab hkn fs hfs fuel k ha h
end Go.Rad
/- What is known of some calls by their contracts, for the run of closed calls. -/
namespace Go.Rad
open Go Go.Proofs
def kIn : List AVal → Option AVal
  | [.int .u8 c, .str l] => req (decide (0 ≤ c) && Nat.ble l.size 1000000) (some (.bool (inS c.toNat l)))
  | _ => none
def decB : List (List AVal) → Option (List Nat)
  | [] => some []
  | [.int .u8 n] :: l => req (decide (0 ≤ n) && decide (n ≤ 255)) ((decB l).map (n.toNat :: ·))
  | _ => none
theorem decB_ok : ∀ {l : List (List AVal)} {bs : List Nat}, decB l = some bs → l = bytesL bs ∧ ∀ x ∈ bs, x ≤ 255
  | [], bs, h => by cases h; exact ⟨rfl, fun _ h => by cases h⟩
  | x :: l, bs, h => by
    unfold decB at h
    split at h
    · rename_i h1; cases h1
    · rename_i n l' h1
      cases h1
      simp only [req_iff, Bool.and_eq_true, decide_eq_true_eq] at h
      obtain ⟨⟨h1, h2⟩, h⟩ := h
      obtain ⟨bs', h3, rfl⟩ := mp_some h
      obtain ⟨h4, h5⟩ := decB_ok h3
      refine ⟨?_, fun x hx => ?_⟩
      · rw [h4]; simp only [bytesL, List.map_cons]; rw [Int.toNat_of_nonneg h1]
      · rcases List.mem_cons.1 hx with rfl | hx
        · omega
        · exact h5 x hx
    · cases h
def decS : List (List AVal) → Option (List ISet)
  | [] => some []
  | [.int .u64 a, .int .u64 b, .int .u64 c, .int .u64 d] :: l => (decS l).map (⟨a, b, c, d⟩ :: ·)
  | _ => none
theorem decS_ok : ∀ {l : List (List AVal)} {ss : List ISet}, decS l = some ss → l = sets ss
  | [], bs, h => by cases h; rfl
  | x :: l, bs, h => by
    unfold decS at h
    split at h
    · rename_i h1; cases h1
    · rename_i a b c d l' h1
      cases h1
      obtain ⟨bs', h3, rfl⟩ := mp_some h
      rw [decS_ok h3]; rfl
    · cases h
def kOf : List AVal → Option AVal
  | [.sl _ _ l] => (decB l).bind fun bs => req (Nat.ble bs.length 1000000) (some (.agg (bs.foldl withI ISet.none).cells))
  | _ => none
def kRange : List AVal → Option AVal
  | [.int .u8 lo, .int .u8 hi] => req (decide (0 ≤ lo) && decide (lo ≤ 255) && decide (0 ≤ hi) && decide (hi ≤ 255)) (some (.agg (rangeI lo.toNat hi.toNat).cells))
  | _ => none
def kOr : List AVal → Option AVal
  | [.sl _ _ l] => (decS l).bind fun ss => req (Nat.ble ss.length 1000000) (some (.agg (orI ss).cells))
  | _ => none
def kNot : List AVal → Option AVal
  | [.agg [.int .u64 a, .int .u64 b, .int .u64 c, .int .u64 d]] => some (.agg (notI ⟨a, b, c, d⟩).cells)
  | _ => none
def kName : List AVal → Option AVal
  | [.str s] => req (Nat.ble s.size maxLen) (some (.bool (nameOk s)))
  | _ => none
/-- One function's calls, and what else is known. -/
def kAdd (f0 : Nat) (g : List AVal → Option AVal) (kn : Known1) : Known1 := fun f => match Nat.beq f f0 with | true => some g | false => kn f
theorem kAdd_ok {f0 : Nat} {g : List AVal → Option AVal} {kn : Known1} (h : ∀ args v, g args = some v → ACall Try.prog f0 args [] fun r s => r = v ∧ s = []) (hk : KnOk Try.prog kn) : KnOk Try.prog (kAdd f0 g kn) := by
  intro f g' args v hg hv
  unfold kAdd at hg
  split at hg
  · rename_i e; cases hg; rw [Nat.eq_of_beq_eq_true e]; exact h args v hv
  · exact hk f g' args v hg hv
def kn4 : Known1 := kAdd 103 kIn (kAdd 14 kOf (kAdd 108 kRange (kAdd 109 kOr (kAdd 101 kNot (kAdd 57 kName fun _ => none)))))
theorem kn4uok : KnOk Try.prog kn4 := by
  refine kAdd_ok (fun args v h => ?_) (kAdd_ok (fun args v h => ?_) (kAdd_ok (fun args v h => ?_) (kAdd_ok (fun args v h => ?_) (kAdd_ok (fun args v h => ?_) (kAdd_ok (fun args v h => ?_) kn_none)))))
  · unfold kIn at h
    split at h
    · rename_i c l
      simp only [req_iff, Bool.and_eq_true, decide_eq_true_eq, Nat.ble_eq, Option.some.injEq] at h
      obtain ⟨⟨h1, h2⟩, rfl⟩ := h
      have := in4uc c.toNat l h2
      rwa [Int.toNat_of_nonneg h1] at this
    · cases h
  · unfold kOf at h
    split at h
    · simp only [Option.bind_eq_some_iff, req_iff, Nat.ble_eq, Option.some.injEq] at h
      obtain ⟨bs, h1, h2, rfl⟩ := h
      obtain ⟨rfl, h3⟩ := decB_ok h1
      exact of_c _ _ bs h3 h2
    · cases h
  · unfold kRange at h
    split at h
    · rename_i lo hi
      simp only [req_iff, Bool.and_eq_true, decide_eq_true_eq, Option.some.injEq] at h
      obtain ⟨⟨⟨⟨h1, h2⟩, h3⟩, h4⟩, rfl⟩ := h
      have := range_c lo.toNat hi.toNat (by omega) (by omega)
      rwa [Int.toNat_of_nonneg h1, Int.toNat_of_nonneg h3] at this
    · cases h
  · unfold kOr at h
    split at h
    · simp only [Option.bind_eq_some_iff, req_iff, Nat.ble_eq, Option.some.injEq] at h
      obtain ⟨ss, h1, h2, rfl⟩ := h
      rw [decS_ok h1]
      exact or_c _ _ ss h2
    · cases h
  · unfold kNot at h
    split at h
    · cases h; exact not_c _ _ _ _
    · cases h
  · unfold kName at h
    split at h
    · simp only [req_iff, Nat.ble_eq, Option.some.injEq] at h
      obtain ⟨h1, rfl⟩ := h
      exact name4uc _ h1
    · cases h
/-- The reader of the document. -/
def fsR : List Nat := [33, 49, 50, 51, 58, 59, 78, 93, 94, 99, 100, 102, 105, 106, 107, 104, 77, 110]
theorem fsR_ok : fsR.all (fnOk Try.prog LL rtab) = true := by decide +kernel
theorem parse_run {s : ByteArray} {v : AVal} (h : ran (xCall Try.prog LL rtab kn4 10000 fsR 60 false 33 [.str s] [] 1000) = some v) : ACall Try.prog 33 [.str s] [] fun r s => r = v ∧ s = [] := ran_c kn4uok fsR fsR_ok _ _ rfl h
end Go.Rad
/- What a call tells, said otherwise: an own row that it tells is given away. -/
namespace Go.Rad
open Go
theorem ACall.post {P : Program} {f : Nat} {args : List AVal} {sto : Sto} {R R' : AVal → Sto → Prop} (h : ACall P f args sto R)
    (hp : ∀ (G : Gh) (w : World) (r : AVal) (s : Sto) (v : Value), WOk G w → StoOk G w s → Rep G true r v → R r s → ∃ G' r' s', Ext G G' ∧ WOk G' w ∧ StoOk G' w s' ∧ Rep G' true r' v ∧ R' r' s') : ACall P f args sto R' := by
  refine ⟨h.able, fun G w cargs a b c => (h.calls G w cargs a b c).mono fun _ _ p => ?_⟩
  obtain ⟨G', cr, r, sto', a, b, c, d, e', f⟩ := p
  obtain ⟨G2, r2, s2, x1, x2, x3, x4, x5⟩ := hp _ _ _ _ _ c d e' f
  exact ⟨G2, cr, r2, s2, a, b.trans x1, x2, x3, x4, x5⟩
theorem ACall.frzRes {P : Program} {f : Nat} {args : List AVal} {sto : Sto} {R R' : AVal → Sto → Prop} (h : ACall P f args sto R)
    (hp : ∀ r s, R r s → (∃ id g esz l, r = .osl id g 0 l.length ∧ sget s id = some (g, .row esz l) ∧ R' (.sl true false l) (sdel s id)) ∨ (∃ q full l, r = .sl q full l ∧ R' (.sl q false l) s) ∨ R' r s) : ACall P f args sto R' := by
  refine h.post fun G w r s v hw hs hr hR => ?_
  rcases hp r s hR with ⟨id, g, esz, l, rfl, hg, h'⟩ | ⟨q, full, l, rfl, h'⟩ | h'
  · obtain ⟨G', hext, hw', hs', hR⟩ := sto_freeze hw hs hg
    have := hR 0 l.length v (by omega) hr
    simp only [List.drop_zero, List.take_length] at this
    exact ⟨G', _, _, hext, hw', hs', this, h'⟩
  · refine ⟨G, _, s, .refl G, hw, hs, ?_, h'⟩
    cases hr with
    | slnil => exact .slnil (fun h => by cases h)
    | sl a _ b c d e f g h => exact .sl a (fun h => by cases h) b c d e f g h
  · exact ⟨G, r, s, .refl G, hw, hs, hr, h'⟩
/-- The numbers within an argument that is a list are what their kinds hold. -/
theorem ACall.fitSl {P : Program} {f : Nat} {args : List AVal} {sto : Sto} {R : AVal → Sto → Prop} (i : Nat) {q full : Bool} {l : List (List AVal)} (able : Callable P f) (hi : args[i]? = some (.sl q full l))
    (h : (∀ (m j : Nat) (x : List AVal) (k : IntKind) (n : Int), l[m]? = some x → x[j]? = some (.int k n) → fits k n) → ACall P f args sto R) : ACall P f args sto R := by
  refine ⟨able, fun G w cargs hw hs ha => ?_⟩
  have hr := ha.2 i _ hi
  generalize cargs.getD i undef = v at hr
  refine (h fun m j x k n hm hj => ?_).calls G w cargs hw hs ha
  cases hr with
  | slnil => simp at hm
  | sl _ _ _ _ _ _ _ _ hc =>
    have := hc m j x _ hm hj
    revert this
    generalize Array.getD _ _ undef = u
    intro this
    cases this with
    | int hf => exact hf
end Go.Rad
/- The head of the statements of layer 9. -/
namespace Go.Rad
open Go Go.Proofs
set_option linter.all false
set_option maxRecDepth 20000
set_option maxHeartbeats 4000000

/-- A pair of lists and a number, the lists' flags forgotten. -/
theorem rep_pair {G : Gh} {o : Bool} {b1 b2 : Bool} {x y : List (List AVal)} {e : AVal} {v : Value} (h : Rep G o (.tup [.agg [.sl true b1 x, .sl true b2 y], e]) v) : Rep G o (.tup [.agg [.sl true false x, .sl true false y], e]) v := by
  cases h with
  | tup a c =>
    refine .tup a fun j z hz => ?_
    match j, hz with
    | 0, hz =>
      simp only [List.getElem?_cons_zero, Option.some.injEq] at hz
      subst hz
      have h0 := c 0 _ rfl
      generalize Array.getD _ 0 undef = u at h0
      cases h0 with
      | agg a2 b2 c2 =>
        refine .agg a2 ?_ ?_
        · intro j x hx
          match j, hx with
          | 0, hx => simp only [List.getElem?_cons_zero, Option.some.injEq] at hx; subst hx; rfl
          | 1, hx => simp only [List.getElem?_cons_succ, List.getElem?_cons_zero, Option.some.injEq] at hx; subst hx; rfl
        · intro j x hx
          match j, hx with
          | 0, hx => simp only [List.getElem?_cons_zero, Option.some.injEq] at hx; subst hx; exact rep_unfull (c2 0 _ rfl)
          | 1, hx => simp only [List.getElem?_cons_succ, List.getElem?_cons_zero, Option.some.injEq] at hx; subst hx; exact rep_unfull (c2 1 _ rfl)
    | 1, hz => exact c 1 _ hz
theorem of9F_c (f : Bool) (ls : List (List Node)) (hll : ls.length ≤ 1000000) (hnd : ∀ x ∈ ls, ndOk x) :
    ACall Try.prog 10 [.sl true f (trees ls)] [] fun r s => r = .tup [.agg [.sl true false (ints (ofG ls).1), .sl true false (poss (ofG ls).2.1)], .int .i64 (ofG ls).2.2] ∧ s = [] := by
  refine (of9uc f ls hll hnd).post fun G w r s v hw hs hr hR => ?_
  obtain ⟨⟨b1, b2, rfl⟩, rfl⟩ := hR
  exact ⟨G, _, _, .refl G, hw, hs, rep_pair hr, rfl, rfl⟩
abbrev byte9 (b : Int) : Node := ⟨2, ⟨0, b, 0, 0⟩, [], 0, 0, ByteArray.empty⟩
abbrev t9a : List Node := [byte9 8589934592, byte9 17179869184, ⟨5, ISet.none, [1], 0, -1, ByteArray.empty⟩, ⟨3, ISet.none, [0, 2], 0, 0, ByteArray.empty⟩]
abbrev t9b : List Node := [byte9 34359738368, ⟨5, ISet.none, [0], 2, 9, ByteArray.empty⟩]
theorem p9a : ACall Try.prog 33 [.str ⟨#[97, 98, 42]⟩] [] fun r s => r = .tup [.sl true false (nodes t9a), .int .i64 0, .int .i64 0] ∧ s = [] := parse_run (by kernel_rfl)
theorem p9b : ACall Try.prog 33 [.str ⟨#[99, 123, 50, 44, 57, 125]⟩] [] fun r s => r = .tup [.sl true false (nodes t9b), .int .i64 0, .int .i64 0] ∧ s = [] := parse_run (by kernel_rfl)
theorem r9a : ref8S t9a 3 = (t9a, 0) := by decide +kernel
theorem r9b : ref8S t9b 3 = (t9b, 0) := by decide +kernel
theorem of9a : ACall Try.prog 17 [.str ⟨#[97, 98, 42]⟩, .int .i64 3] [] fun r s => r = .sl true false (nodes t9a) ∧ s = [] := by
  have h := rtree_c false t9a 3 (by decide) (by decide +kernel) (fun h1 h2 h3 => planR_nd h1 h2 h3)
  rw [r9a] at h
  simp only [flS_0] at h
  have hp := p9a
  generalize nodes t9a = A at h hp ⊢
  refine ACall.enter Try.func17 rfl (by kernel_rfl) (Nat.le_of_ble_eq_true rfl) ?_; simp only [initTm, Nat.reduceAdd]
  repeat' (first
  | refine gSq ?_ | refine gSk ?_ | refine gBl ?_ | refine gIb ?_ | refine gEx rfl ?_
  | ((first
  | (refine gRg [] [0, 1, 4, 5, 8] ?_; intro K hK)
  | refine cAl (hp) rfl rfl rfl ?_
  | refine cAl (h) rfl rfl rfl ?_
  | (refine gd_split ?_ ?_ <;> intro hb <;> (try simp only [bls] at hb) <;> (try simp only [hb]))
  | refine gRt [] [.tmp 4] rfl ?_ | refine gDn [] [.tmp 4] rfl ?_) <;> (try simp only [go_sem, simprocAttr]))
  | (refine hK _ _ ?_; clear hK K; simp only [go_sem, simprocAttr])
  | refine gCd (by simp only [go_sem, simprocAttr]; rfl) rfl ?_
  | refine brT ?_ | refine brF ?_
  | (refine brS ?_ ?_ <;> intro hc <;> (try simp only [bls] at hc) <;> (try simp only [hc, bls]))
  | intro _ | refine And.intro ?_ ?_)
  all_goals first | omega | (unfold bigLen; omega) | exact ⟨_, _, ⟨rfl, rfl⟩, rfl⟩ | exact ⟨_, rfl⟩ | (rename_i hy; simp only [List.mem_singleton] at hy; subst hy; rfl) | with_reducible rfl | skip
theorem of9b : ACall Try.prog 17 [.str ⟨#[99, 123, 50, 44, 57, 125]⟩, .int .i64 3] [] fun r s => r = .sl true false (nodes t9b) ∧ s = [] := by
  have h := rtree_c false t9b 3 (by decide) (by decide +kernel) (fun h1 h2 h3 => planR_nd h1 h2 h3)
  rw [r9b] at h
  simp only [flS_0] at h
  have hp := p9b
  generalize nodes t9b = A at h hp ⊢
  refine ACall.enter Try.func17 rfl (by kernel_rfl) (Nat.le_of_ble_eq_true rfl) ?_; simp only [initTm, Nat.reduceAdd]
  repeat' (first
  | refine gSq ?_ | refine gSk ?_ | refine gBl ?_ | refine gIb ?_ | refine gEx rfl ?_
  | ((first
  | (refine gRg [] [0, 1, 4, 5, 8] ?_; intro K hK)
  | refine cAl (hp) rfl rfl rfl ?_
  | refine cAl (h) rfl rfl rfl ?_
  | (refine gd_split ?_ ?_ <;> intro hb <;> (try simp only [bls] at hb) <;> (try simp only [hb]))
  | refine gRt [] [.tmp 4] rfl ?_ | refine gDn [] [.tmp 4] rfl ?_) <;> (try simp only [go_sem, simprocAttr]))
  | (refine hK _ _ ?_; clear hK K; simp only [go_sem, simprocAttr])
  | refine gCd (by simp only [go_sem, simprocAttr]; rfl) rfl ?_
  | refine brT ?_ | refine brF ?_
  | (refine brS ?_ ?_ <;> intro hc <;> (try simp only [bls] at hc) <;> (try simp only [hc, bls]))
  | intro _ | refine And.intro ?_ ?_)
  all_goals first | omega | (unfold bigLen; omega) | exact ⟨_, _, ⟨rfl, rfl⟩, rfl⟩ | exact ⟨_, rfl⟩ | (rename_i hy; simp only [List.mem_singleton] at hy; subst hy; rfl) | with_reducible rfl | skip
abbrev w9 : List Po := [⟨⟨0, 8589934592, 0, 0⟩, 1, 1, 0, true, [1]⟩, ⟨⟨0, 17179869184, 0, 0⟩, 1, 1, 0, true, [1]⟩, ⟨⟨0, 34359738368, 0, 0⟩, 2, 9, 1, true, []⟩]
theorem g9 : ofG [t9a, t9b] = ([0, 2], w9, 0) := by kernel_rfl
theorem same9uc (q f q' f' : Bool) (a : List Int) (ha : a.length ≤ 100000000) : ACall Try.prog 24 [.sl q f (ints a), .sl q' f' (ints a)] [] fun r s => r = .bool true ∧ s = [] := by
  refine ACall.enter Try.func24 rfl (by kernel_rfl) (Nat.le_of_ble_eq_true rfl) ?_; simp only [initTm, Nat.reduceAdd]
  repeat' (first
  | refine gSq ?_ | refine gSk ?_ | refine gBl ?_ | refine gIb ?_ | refine gEx rfl ?_
  | ((first
  | (refine gRg [] [0, 1, 4, 5, 10, 14, 25] ?_; intro K hK)
  | (refine gDr 6 [] 9 [0, 1, 2, 3, 4, 5, 6, 7, 8] [0, 1, 4, 5, 10, 14, 25] rfl ?_; intro K hK)
  | (refine gd_split ?_ ?_ <;> intro hb <;> (try simp only [bls] at hb) <;> (try simp only [hb]))
  | refine gRt [] [.tmp 4] rfl ?_ | refine gDn [] [.tmp 4] rfl ?_) <;> (try simp only [go_sem, simprocAttr]))
  | (refine hK _ _ ?_; clear hK K; simp only [go_sem, simprocAttr])
  | refine gCd (by simp only [go_sem, simprocAttr]; rfl) rfl ?_
  | refine brT ?_ | refine brF ?_
  | (refine brS ?_ ?_ <;> intro hc <;> (try simp only [bls] at hc) <;> (try simp only [hc, bls]))
  | intro _ | refine And.intro ?_ ?_)
  all_goals first | omega | (unfold bigLen; omega) | exact ⟨_, _, ⟨rfl, rfl⟩, rfl⟩ | exact ⟨_, rfl⟩ | (rename_i hy; simp only [List.mem_singleton] at hy; subst hy; rfl) | with_reducible rfl | skip
  refine AGood.prune [0, 1, 4, 5] ?_; simp only [go_sem, simprocAttr]
  refine AGood.loopInv (α := Nat) (fun i => ([(0, .sl q f (ints a)), (1, .sl q' f' (ints a)), (4, .bool false), (5, .int .i64 i)], [])) (fun i => i ≤ a.length) (fun i => a.length - i) 0 (Nat.zero_le _) rfl ?_
  rintro i hi ih
  simp only at hi ih ⊢
  by_cases hle : i < a.length
  · have e4 : (i : Int) < a.length := by omega
    have e5 : (0 : Int) ≤ i := by omega
    have e6 : (i : Int) + 1 = ((i + 1 : Nat) : Int) := by omega
    obtain ⟨x, hx⟩ : ∃ x, a[i]? = some x := ⟨_, List.getElem?_eq_getElem hle⟩
    repeat' (first
  | refine gSq ?_ | refine gSk ?_ | refine gBl ?_ | refine gIb ?_ | refine gEx rfl ?_
  | ((first
  | (refine gRg [] [0, 1, 4, 5, 10, 14, 25] ?_; intro K hK)
  | (refine gDr 6 [] 9 [0, 1, 2, 3, 4, 5, 6, 7, 8] [0, 1, 4, 5, 10, 14, 25] rfl ?_; intro K hK)
  | (refine gd_split ?_ ?_ <;> intro hb <;> (try simp only [bls] at hb) <;> (try simp only [hb]))
  | refine gRt [] [.tmp 4] rfl ?_ | refine gDn [] [.tmp 4] rfl ?_) <;> (try simp only [go_sem, simprocAttr, e4, e5, e6, hx, eq_self, Option.some.injEq, forall_eq']))
  | (refine hK _ _ ?_; clear hK K; simp only [go_sem, simprocAttr])
  | refine gCd (by simp only [go_sem, simprocAttr]; rfl) rfl ?_
  | refine brT ?_ | refine brF ?_
  | (refine brS ?_ ?_ <;> intro hc <;> (try simp only [bls] at hc) <;> (try simp only [hc, bls]))
  | intro _ | refine And.intro ?_ ?_)
    all_goals first | omega | (unfold bigLen; omega) | exact ⟨_, _, ⟨rfl, rfl⟩, rfl⟩ | exact ⟨_, rfl⟩ | (rename_i hy; simp only [List.mem_singleton] at hy; subst hy; rfl) | with_reducible rfl | skip
    refine AGood.prune [0, 1, 4, 5] ?_; simp only [go_sem, simprocAttr]
    exact (ih (i + 1) (by omega) (by omega)).cast rfl rfl
  · have e4 : ¬ (i : Int) < a.length := by omega
    clear ih
    repeat' (first
  | refine gSq ?_ | refine gSk ?_ | refine gBl ?_ | refine gIb ?_ | refine gEx rfl ?_
  | ((first
  | (refine gRg [] [0, 1, 4, 5, 10, 14, 25] ?_; intro K hK)
  | (refine gDr 6 [] 9 [0, 1, 2, 3, 4, 5, 6, 7, 8] [0, 1, 4, 5, 10, 14, 25] rfl ?_; intro K hK)
  | (refine gd_split ?_ ?_ <;> intro hb <;> (try simp only [bls] at hb) <;> (try simp only [hb]))
  | refine gRt [] [.tmp 4] rfl ?_ | refine gDn [] [.tmp 4] rfl ?_) <;> (try simp only [go_sem, simprocAttr, e4]))
  | (refine hK _ _ ?_; clear hK K; simp only [go_sem, simprocAttr])
  | refine gCd (by simp only [go_sem, simprocAttr]; rfl) rfl ?_
  | refine brT ?_ | refine brF ?_
  | (refine brS ?_ ?_ <;> intro hc <;> (try simp only [bls] at hc) <;> (try simp only [hc, bls]))
  | intro _ | refine And.intro ?_ ?_)
    all_goals first | omega | (unfold bigLen; omega) | exact ⟨_, _, ⟨rfl, rfl⟩, rfl⟩ | exact ⟨_, rfl⟩ | (rename_i hy; simp only [List.mem_singleton] at hy; subst hy; rfl) | with_reducible rfl | skip
theorem Same9uc (b1 b2 b3 b4 : Bool) (fi : List Int) (ps : List Po) (hf : fi.length ≤ 100000000) (hp : ps.length ≤ 1000000) (hn : ∀ p ∈ ps, p.next.length ≤ 100000000) :
    ACall Try.prog 11 [.agg [.sl true b1 (ints fi), .sl true b2 (poss ps)], .agg [.sl true b3 (ints fi), .sl true b4 (poss ps)]] [] fun r s => r = .bool true ∧ s = [] := by
  have hs := same9uc true b1 true b3 fi hf
  refine ACall.enter Try.func11 rfl (by kernel_rfl) (Nat.le_of_ble_eq_true rfl) ?_; simp only [initTm, Nat.reduceAdd]
  repeat' (first
  | refine gSq ?_ | refine gSk ?_ | refine gBl ?_ | refine gIb ?_ | refine gEx rfl ?_
  | ((first
  | (refine gRg [] [0, 1, 2, 3, 4, 5, 6, 7, 22, 27, 80] ?_; intro K hK)
  | refine cAl (hs) rfl rfl rfl ?_
  | (refine gd_split ?_ ?_ <;> intro hb <;> (try simp only [bls] at hb) <;> (try simp only [hb]))
  | refine gRt [] [.tmp 4] rfl ?_ | refine gDn [] [.tmp 4] rfl ?_) <;> (try simp only [go_sem, simprocAttr]))
  | (refine hK _ _ ?_; clear hK K; simp only [go_sem, simprocAttr])
  | refine gCd (by simp only [go_sem, simprocAttr]; rfl) rfl ?_
  | refine brT ?_ | refine brF ?_
  | (refine brS ?_ ?_ <;> intro hc <;> (try simp only [bls] at hc) <;> (try simp only [hc, bls]))
  | intro _ | refine And.intro ?_ ?_)
  all_goals first | omega | (unfold bigLen; omega) | exact ⟨_, _, ⟨rfl, rfl⟩, rfl⟩ | exact ⟨_, rfl⟩ | (rename_i hy; simp only [List.mem_singleton] at hy; subst hy; rfl) | with_reducible rfl | skip
  rename_i h2 h3
  refine AGood.prune [2, 3, 4, 5] ?_; simp only [go_sem, simprocAttr]
  refine AGood.loopInv (α := Nat) (fun i => ([(2, .bx 2 h2 0), (3, .bx 3 h3 0), (4, .bool false), (5, .int .i64 i)], [(2, h2, .box [.sl true b1 (ints fi), .sl true b2 (poss ps)]), (3, h3, .box [.sl true b3 (ints fi), .sl true b4 (poss ps)])])) (fun i => i ≤ ps.length) (fun i => ps.length - i) 0 (Nat.zero_le _) rfl ?_
  rintro i hi ih
  simp only at hi ih ⊢
  by_cases hle : i < ps.length
  · have e4 : (i : Int) < ps.length := by omega
    have e5 : (0 : Int) ≤ i := by omega
    have e6 : (i : Int) + 1 = ((i + 1 : Nat) : Int) := by omega
    obtain ⟨p, hx⟩ : ∃ x, ps[i]? = some x := ⟨_, List.getElem?_eq_getElem hle⟩
    have hpn := hn p (List.mem_of_getElem? hx)
    have hsn := same9uc true false true false p.next hpn
    obtain ⟨⟨sa, sb, sc, sd⟩, lo, hi', rule, last, next⟩ := p
    simp only at hsn
    cases last
    · repeat' (first
  | refine gSq ?_ | refine gSk ?_ | refine gBl ?_ | refine gIb ?_ | refine gEx rfl ?_
  | ((first
  | (refine gRg [] [0, 1, 2, 3, 4, 5, 6, 7, 22, 27, 80] ?_; intro K hK)
  | refine cAl (hsn) rfl rfl rfl ?_
  | (refine gd_split ?_ ?_ <;> intro hb <;> (try simp only [bls] at hb) <;> (try simp only [hb]))
  | refine gRt [] [.tmp 4] rfl ?_ | refine gDn [] [.tmp 4] rfl ?_) <;> (try simp only [go_sem, simprocAttr, e4, e5, e6, hx, eq_self, beq_self_eq_true, Option.some.injEq, forall_eq']))
  | (refine hK _ _ ?_; clear hK K; simp only [go_sem, simprocAttr])
  | refine gCd (by simp only [go_sem, simprocAttr]; rfl) rfl ?_
  | refine brT ?_ | refine brF ?_
  | (refine brS ?_ ?_ <;> intro hc <;> (try simp only [bls] at hc) <;> (try simp only [hc, bls]))
  | intro _ | refine And.intro ?_ ?_)
      all_goals first | omega | (unfold bigLen; omega) | exact ⟨_, _, ⟨rfl, rfl⟩, rfl⟩ | exact ⟨_, rfl⟩ | (rename_i hy; simp only [List.mem_singleton] at hy; subst hy; rfl) | with_reducible rfl | skip
      refine AGood.filt [2, 3] ?_
      simp only [sf_cons, sf_nil, go_sem, simprocAttr]
      refine AGood.prune [2, 3, 4, 5] ?_; simp only [go_sem, simprocAttr]
      exact (ih (i + 1) (by omega) (by omega)).cast rfl rfl
    · repeat' (first
  | refine gSq ?_ | refine gSk ?_ | refine gBl ?_ | refine gIb ?_ | refine gEx rfl ?_
  | ((first
  | (refine gRg [] [0, 1, 2, 3, 4, 5, 6, 7, 22, 27, 80] ?_; intro K hK)
  | refine cAl (hsn) rfl rfl rfl ?_
  | (refine gd_split ?_ ?_ <;> intro hb <;> (try simp only [bls] at hb) <;> (try simp only [hb]))
  | refine gRt [] [.tmp 4] rfl ?_ | refine gDn [] [.tmp 4] rfl ?_) <;> (try simp only [go_sem, simprocAttr, e4, e5, e6, hx, eq_self, beq_self_eq_true, Option.some.injEq, forall_eq']))
  | (refine hK _ _ ?_; clear hK K; simp only [go_sem, simprocAttr])
  | refine gCd (by simp only [go_sem, simprocAttr]; rfl) rfl ?_
  | refine brT ?_ | refine brF ?_
  | (refine brS ?_ ?_ <;> intro hc <;> (try simp only [bls] at hc) <;> (try simp only [hc, bls]))
  | intro _ | refine And.intro ?_ ?_)
      all_goals first | omega | (unfold bigLen; omega) | exact ⟨_, _, ⟨rfl, rfl⟩, rfl⟩ | exact ⟨_, rfl⟩ | (rename_i hy; simp only [List.mem_singleton] at hy; subst hy; rfl) | with_reducible rfl | skip
      refine AGood.filt [2, 3] ?_
      simp only [sf_cons, sf_nil, go_sem, simprocAttr]
      refine AGood.prune [2, 3, 4, 5] ?_; simp only [go_sem, simprocAttr]
      exact (ih (i + 1) (by omega) (by omega)).cast rfl rfl
  · have e4 : ¬ (i : Int) < ps.length := by omega
    clear ih
    repeat' (first
  | refine gSq ?_ | refine gSk ?_ | refine gBl ?_ | refine gIb ?_ | refine gEx rfl ?_
  | ((first
  | (refine gRg [] [0, 1, 2, 3, 4, 5, 6, 7, 22, 27, 80] ?_; intro K hK)
  | (refine gd_split ?_ ?_ <;> intro hb <;> (try simp only [bls] at hb) <;> (try simp only [hb]))
  | refine gRt [] [.tmp 4] rfl ?_ | refine gDn [] [.tmp 4] rfl ?_) <;> (try simp only [go_sem, simprocAttr, e4]))
  | (refine hK _ _ ?_; clear hK K; simp only [go_sem, simprocAttr])
  | refine gCd (by simp only [go_sem, simprocAttr]; rfl) rfl ?_
  | refine brT ?_ | refine brF ?_
  | (refine brS ?_ ?_ <;> intro hc <;> (try simp only [bls] at hc) <;> (try simp only [hc, bls]))
  | intro _ | refine And.intro ?_ ?_)
    all_goals first | omega | (unfold bigLen; omega) | exact ⟨_, _, ⟨rfl, rfl⟩, rfl⟩ | exact ⟨_, rfl⟩ | (rename_i hy; simp only [List.mem_singleton] at hy; subst hy; rfl) | with_reducible rfl | skip
theorem set9uc (c : Nat) (hc : c ≤ 255) : ACall Try.prog 18 [.int .u8 c] [] fun r s => r = .agg ([c].foldl withI ISet.none).cells ∧ s = [] := by
  have h := fun q f => of_c q f [c] (fun x hx => by simp at hx; omega) (by simp)
  simp only [bytesL, List.map_cons, List.map_nil] at h
  generalize [c].foldl withI ISet.none = S at h
  obtain ⟨sa, sb, sc, sd⟩ := S
  simp only [ISet.cells] at h ⊢
  refine ACall.enter Try.func18 rfl (by kernel_rfl) (Nat.le_of_ble_eq_true rfl) ?_; simp only [initTm, Nat.reduceAdd]
  repeat' (first
  | refine gSq ?_ | refine gSk ?_ | refine gBl ?_ | refine gIb ?_ | refine gEx rfl ?_
  | ((first
  | (refine gRg [4] [0, 2] ?_; intro K hK)
  | refine cAl (h _ _) rfl rfl rfl ?_
  | (refine gd_split ?_ ?_ <;> intro hb <;> (try simp only [bls] at hb) <;> (try simp only [hb]))
  | refine gRt [] [.cell 2 35] rfl ?_ | refine gDn [] [.cell 2 35] rfl ?_) <;> (try simp only [go_sem, simprocAttr]))
  | (refine hK _ _ ?_; clear hK K; simp only [go_sem, simprocAttr])
  | refine gCd (by simp only [go_sem, simprocAttr]; rfl) rfl ?_
  | refine brT ?_ | refine brF ?_
  | (refine brS ?_ ?_ <;> intro hc <;> (try simp only [bls] at hc) <;> (try simp only [hc, bls]))
  | intro _ | refine And.intro ?_ ?_)
  all_goals first | omega | (unfold bigLen; omega) | exact ⟨_, _, ⟨rfl, rfl⟩, rfl⟩ | exact ⟨_, rfl⟩ | (rename_i hy; simp only [List.mem_singleton] at hy; subst hy; rfl) | with_reducible rfl | skip
theorem u9a : [97].foldl withI ISet.none = ⟨0, 8589934592, 0, 0⟩ := by decide +kernel
theorem u9b : [98].foldl withI ISet.none = ⟨0, 17179869184, 0, 0⟩ := by decide +kernel
theorem u9c : [99].foldl withI ISet.none = ⟨0, 34359738368, 0, 0⟩ := by decide +kernel
theorem shown9uc : ACall Try.prog 8 [] [] fun r s => r = .bool true ∧ s = [] := by
  have hO : ∀ b, ACall _ _ [.sl true b [[.sl true false (nodes t9a)], [.sl true false (nodes t9b)]]] [] _ := fun b => of9F_c b [t9a, t9b] (by decide) (by unfold ndOk; decide +kernel)
  rw [g9] at hO
  have ha := of9a
  have hb := of9b
  have sA := set9uc 97 (by decide)
  have sB := set9uc 98 (by decide)
  have sC := set9uc 99 (by decide)
  rw [u9a] at sA
  rw [u9b] at sB
  rw [u9c] at sC
  have hS := fun b1 b2 b3 b4 => Same9uc b1 b2 b3 b4 [0, 2] w9 (by decide) (by decide) (by decide +kernel)
  generalize nodes t9a = A at ha hO
  generalize nodes t9b = B at hb hO
  simp only [List.map_cons, List.map_nil, ISet.cells, Int.cast_ofNat_Int] at hO sA sB sC hS
  refine ACall.enter Try.func8 rfl (by kernel_rfl) (Nat.le_of_ble_eq_true rfl) ?_; simp only [initTm, Nat.reduceAdd]
  repeat' (first
  | refine gSq ?_ | refine gSk ?_ | refine gBl ?_ | refine gIb ?_ | refine gEx rfl ?_
  | ((first
  | (refine gRg [8, 12, 15, 19, 24] [0, 1, 2, 3, 4] ?_; intro K hK)
  | refine cAl (ha) rfl rfl rfl ?_
  | refine cAl (hb) rfl rfl rfl ?_
  | refine cAl (sA) rfl rfl rfl ?_
  | refine cAl (sB) rfl rfl rfl ?_
  | refine cAl (sC) rfl rfl rfl ?_
  | refine cAl (hS _ _ _ _) rfl rfl rfl ?_
  | (refine ACall.mono (hO _) ?_; rintro _ _ ⟨rfl, rfl⟩)
  | (refine gd_split ?_ ?_ <;> intro hb <;> (try simp only [bls] at hb) <;> (try simp only [hb]))
  | refine gRt [] [.tmp 0] rfl ?_ | refine gDn [] [.tmp 0] rfl ?_) <;> (try simp only [go_sem, simprocAttr, AVal.isCell, Option.some.injEq, exists_eq_left', forall_eq']))
  | (refine hK _ _ ?_; clear hK K; simp only [go_sem, simprocAttr])
  | refine gCd (by simp only [go_sem, simprocAttr]; rfl) rfl ?_
  | refine brT ?_ | refine brF ?_
  | (refine brS ?_ ?_ <;> intro hc <;> (try simp only [bls] at hc) <;> (try simp only [hc, bls]))
  | intro _ | refine And.intro ?_ ?_)
  all_goals first | omega | (unfold bigLen; omega) | exact ⟨_, _, ⟨rfl, rfl⟩, rfl⟩ | exact ⟨_, rfl⟩ | (rename_i hy; simp only [List.mem_singleton] at hy; subst hy; rfl) | with_reducible rfl | skip
  all_goals trace_state
end Go.Rad
/- A region of any order, walked along every order that there may be: a tree of ways. Moves are taken as soon as they may be. -/
namespace Go.Rad
open Go

inductive Ways where
  | done
  | take (i : Nat) (t : Ways)
  | one (i : Nat) (t : Ways)
  | two (i : Nat) (t : Ways) (j : Nat) (u : Ways)

def isMove (o : Oper) : Bool := match o.op, o.guard with
  | .move _, none => true
  | .assign _, none => true
  | _, _ => false
def readyB (ops : List Oper) (l : Array Bool) : List Nat := Region.ready .any ops.toArray l
def Ways.ok (ops : List Oper) : Ways → Array Bool → Bool
  | .done, l => (readyB ops l).isEmpty
  | .take i t, l => (match ops[i]? with | some o => isMove o | none => false) && Region.free .any ops.toArray l i && (readyB ops l).contains i && t.ok ops (l.setIfInBounds i true)
  | .one i t, l => (readyB ops l == [i]) && t.ok ops (l.setIfInBounds i true)
  | .two i t j u, l => (readyB ops l == [i, j]) && t.ok ops (l.setIfInBounds i true) && u.ok ops (l.setIfInBounds j true)
def Ways.deep : Ways → Nat
  | .done => 0
  | .take _ t => t.deep + 1
  | .one _ t => t.deep + 1
  | .two _ t _ u => max t.deep u.deep + 1
def vcW (L : Lay) (P : Program) (z : List Nat) (ds : List (Option Nat)) (ops : List Oper) : Ways → Tm → Sto → (Tm → Sto → Prop) → Prop
  | .done, tm, sto, K => K tm sto
  | .take i t, tm, sto, K => vc L P false z ds ([i].filterMap (ops[·]?)) tm sto fun tm sto => vcW L P z ds ops t tm sto K
  | .one i t, tm, sto, K => vc L P false z ds ([i].filterMap (ops[·]?)) tm sto fun tm sto => vcW L P z ds ops t tm sto K
  | .two i t j u, tm, sto, K => (vc L P false z ds ([i].filterMap (ops[·]?)) tm sto fun tm sto => vcW L P z ds ops t tm sto K) ∧ (vc L P false z ds ([j].filterMap (ops[·]?)) tm sto fun tm sto => vcW L P z ds ops u tm sto K)

section
variable {P : Program} {L : Lay} {nt : Nat} {E : Gh} {dfs : List Deferred} {z : List Nat} {ops : List Oper} {Q : Exit → Act → World → Prop}
theorem wpOp_vc (hL : LOk P L) {i : Nat} {o : Oper} {tm : Tm} {sto : Sto} {a : Act} {w : World} {G : Gh} {K' : Tm → Sto → Prop} {N : Act → World → Prop} (hi : ops[i]? = some o) (hok1 : okOps L nt [o] = true) (hsim : Sim E nt dfs tm sto a w G)
    (h : vc L P false z (ops.map (·.dst)) [o] tm sto K') (hN : ∀ tm' sto' a' w' G', K' tm' sto' → Sim E nt dfs tm' sto' a' w' G' → N a' w') : wpOp P ops.toArray Q i N a w := by
  have hdst : (match o.dst with | some d => decide (d < nt) | none => true) = true := by
    simp only [okOps, List.all_cons, List.all_nil, Bool.and_true, Bool.and_eq_true] at hok1
    exact hok1.1.2
  unfold wpOp
  rw [show ops.toArray[i]? = some o by simpa using hi]
  simp only
  unfold vc at h
  split at h
  · rename_i hg
    rw [if_pos (by simp [Region.wanted, hg])]
    exact .inl (step_sound hL hsim hok1 h fun G' w' r v sto' hT hs => hN _ _ _ _ _ hT hs)
  · rename_i j want hg
    split at h
    · rename_i t hj
      split at h
      · rename_i b hb
        have hy := yielded_bool hsim.tok hj hb
        have hsub : ∀ c, b = c → Sim E nt dfs ((t, .bool c) :: tm) sto a w G := by
          rintro c rfl
          refine ⟨hsim.ext, hsim.wok, hsim.sok, fun t' => ?_, hsim.n, hsim.d⟩
          simp only [lk]
          split
          · rename_i e; subst e; rw [← hb]; exact hsim.tok _
          · exact hsim.tok t'
        by_cases hbw : b = want
        · rw [if_pos (by simp [Region.wanted, hg, hy, hbw])]
          exact .inl (step_sound hL (hsub want hbw) hok1 (h.1 hbw) fun G' w' r v sto' hT hs => hN _ _ _ _ _ hT hs)
        · rw [if_neg (by simp [Region.wanted, hg, hy, hbw])]
          have hbn : b = !want := by cases b <;> cases want <;> simp_all
          exact hN _ _ _ _ _ (h.2 hbn) ((hsub _ hbn).put (.refl G) hsim.wok hsim.sok hdst (.tup rfl fun j x hx => by simp at hx))
      · rename_i hb
        have hy := yielded_none hsim.tok hj hb
        rw [if_neg (by simp [Region.wanted, hg, hy])]
        exact hN _ _ _ _ _ h (hsim.put (.refl G) hsim.wok hsim.sok hdst (.tup rfl fun j x hx => by simp at hx))
      · exact h.elim
    · exact h.elim
theorem one_sel {i : Nat} {o : Oper} (hi : ops[i]? = some o) : [i].filterMap (ops[·]?) = [o] := by simp [hi]
theorem wy_okOne (hall : okOps L nt ops = true) {i : Nat} {o : Oper} (hi : ops[i]? = some o) : okOps L nt [o] = true := by
  have := List.all_eq_true.1 hall o (List.mem_of_getElem? hi)
  simp only [okOps, List.all_cons, List.all_nil, Bool.and_true]
  exact this
theorem ways_sound (hL : LOk P L) {K : Tm → Sto → Prop} (hall : okOps L nt ops = true) (hns : Region.noSelect ops.toArray = true) (hQp : ∀ c a w, ¬ Q (.panic c) a w) (hQ : ∀ G tm sto a w, K tm sto → Sim E nt dfs tm sto a w G → Q .normal a w) :
    ∀ (t : Ways) (listed : Array Bool) (tm : Tm) (sto : Sto) (a : Act) (w : World) (G : Gh) (fuel : Nat), t.ok ops listed = true → t.deep ≤ fuel → Sim E nt dfs tm sto a w G → vcW L P z (ops.map (·.dst)) ops t tm sto K → wpAny P .any ops.toArray Q fuel listed a w := by
  have step : ∀ (i : Nat) (t : Ways) (listed : Array Bool) (tm : Tm) (sto : Sto) (a : Act) (w : World) (G : Gh) (fuel : Nat), i ∈ Region.ready .any ops.toArray listed → (∀ (tm : Tm) (sto : Sto) (a : Act) (w : World) (G : Gh), Sim E nt dfs tm sto a w G → vcW L P z (ops.map (·.dst)) ops t tm sto K → wpAny P .any ops.toArray Q fuel (listed.setIfInBounds i true) a w) →
      Sim E nt dfs tm sto a w G → (vc L P false z (ops.map (·.dst)) ([i].filterMap (ops[·]?)) tm sto fun tm sto => vcW L P z (ops.map (·.dst)) ops t tm sto K) → wpOp P ops.toArray Q i (wpAny P .any ops.toArray Q fuel (listed.setIfInBounds i true)) a w := by
    intro i t listed tm sto a w G fuel hr ih hsim h
    obtain ⟨_, o, ho, _⟩ := mem_ready.1 hr
    have hi : ops[i]? = some o := by simpa using ho
    rw [one_sel hi] at h
    exact wpOp_vc hL hi (wy_okOne hall hi) hsim h fun tm' sto' a' w' G' hk hs => ih tm' sto' a' w' G' hs hk
  intro t
  induction t with
  | done =>
    intro listed tm sto a w G fuel hok _ hsim h
    refine wpAny_done ?_ (hQ G tm sto a w h hsim) fuel
    simpa [Ways.ok, readyB] using hok
  | take i t ih =>
    intro listed tm sto a w G fuel hok hd hsim h
    simp only [Ways.ok, Bool.and_eq_true] at hok
    obtain ⟨⟨⟨h1, h2⟩, h3⟩, h4⟩ := hok
    simp only [Ways.deep] at hd
    obtain ⟨fuel, rfl⟩ : ∃ f, fuel = f + 1 := ⟨fuel - 1, by omega⟩
    split at h1
    · rename_i o hi
      have hk := wy_okOne hall hi
      have hkd := hk
      simp only [okOps, List.all_cons, List.all_nil, Bool.and_true, Bool.and_eq_true] at hkd
      obtain ⟨⟨hop, hdst⟩, _⟩ := hkd
      simp only [opOk, Bool.and_eq_true] at hop
      have hops : ∀ x ∈ o.op.operands, operandOk x = true := fun x hx => Array.all_eq_true'.1 hop.1 x hx
      unfold vcW at h
      rw [one_sel hi] at h
      have key : ∀ x, (o.op = .move x ∨ o.op = .assign x) → o.guard = none → wpAny P .any ops.toArray Q (fuel + 1) listed a w := by
        intro x hx hg
        have hxm : operandOk x = true := hops x (by rcases hx with hx | hx <;> rw [hx] <;> simp [Op.operands])
        have hv : vcW L P z (ops.map (·.dst)) ops t (put o.dst (ev tm x) tm) sto K := by
          unfold vc at h
          rw [hg] at h
          simp only [vcStep] at h
          rcases hx with hx | hx <;> rw [hx] at h <;> exact h
        have hrun : ∀ w, (execOp a.eval o).run P w = .ok (.value (a.eval x)) w := fun w => by rcases hx with hx | hx <;> simp [execOp, hx]
        refine wpAny_take (v := a.eval x) (by simpa using hi) hns h2 h3 (fun c a w hq => absurd hq (hQp c _ _)) (.inl ⟨by simp [Region.wanted, hg], hrun⟩) ?_
        exact ih _ _ _ _ _ G fuel h4 (by omega) (hsim.put (.refl G) hsim.wok hsim.sok hdst (ev_rep hsim.wok hsim.tok hxm)) hv
      unfold isMove at h1
      split at h1
      · rename_i x hx hg; exact key x (.inl hx) hg
      · rename_i x hx hg; exact key x (.inr hx) hg
      · cases h1
    · cases h1
  | one i t ih =>
    intro listed tm sto a w G fuel hok hd hsim h
    simp only [Ways.ok, Bool.and_eq_true, beq_iff_eq, readyB] at hok
    simp only [Ways.deep] at hd
    obtain ⟨fuel, rfl⟩ : ∃ f, fuel = f + 1 := ⟨fuel - 1, by omega⟩
    refine wpAny_all hok.1 (by simp) fun k hk => ?_
    rw [List.mem_singleton] at hk
    subst hk
    exact step _ t listed tm sto a w G fuel (by rw [hok.1]; simp) (fun tm sto a w G hs hv => ih _ tm sto a w G fuel hok.2 (by omega) hs hv) hsim h
  | two i t j u ih1 ih2 =>
    intro listed tm sto a w G fuel hok hd hsim h
    simp only [Ways.ok, Bool.and_eq_true, beq_iff_eq, readyB] at hok
    simp only [Ways.deep] at hd
    obtain ⟨fuel, rfl⟩ : ∃ f, fuel = f + 1 := ⟨fuel - 1, by omega⟩
    obtain ⟨⟨h1, h2⟩, h3⟩ := hok
    refine wpAny_all h1 (by simp) fun k hk => ?_
    simp only [List.mem_cons, List.not_mem_nil, or_false] at hk
    rcases hk with rfl | rfl
    · exact step _ t listed tm sto a w G fuel (by rw [h1]; simp) (fun tm sto a w G hs hv => ih1 _ tm sto a w G fuel h2 (by omega) hs hv) hsim h.1
    · exact step _ u listed tm sto a w G fuel (by rw [h1]; simp) (fun tm sto a w G hs hv => ih2 _ tm sto a w G fuel h3 (by omega) hs hv) hsim h.2
end
theorem AGood.ways {P : Program} {L : Lay} {f : Nat} {fn : Func} {df : List DDel} {k : List Item} {tm : Tm} {sto : Sto} {R : AVal → Sto → Prop} (hL : LOk P L) (hm : P.follows .mixedOrders = true) (t : Ways) (z : List Nat) {id : Nat} {ops : List Oper} (ps : List Nat)
    (hok : (okOps L fn.ntmps ops && Region.noSelect ops.toArray && t.ok ops (Array.replicate ops.length false) && Nat.ble t.deep ops.length) = true)
    (h : ∀ K : Tm → Sto → Prop, (∀ tm' sto', AGood P f fn df k (Rad.prune ps tm') sto' R → K tm' sto') → vcW L P z (ops.map (·.dst)) ops t tm sto K) :
    AGood P f fn df (.code (.region id ops.toArray true) :: k) tm sto R := by
  simp only [Bool.and_eq_true, Nat.ble_eq] at hok
  obtain ⟨⟨⟨hall, hns⟩, hw⟩, hdp⟩ := hok
  refine ⟨?_⟩
  intro E G a w b h1 h2 h3 h4 h5 h6 h7 h8 h9
  refine Good.of_wp (Q := fun e a' w' => e = .normal ∧ Good P f (Post E R) b k a' w') (wp_region_any hm ?_) fun e a' w' hq => hq
  let K : Tm → Sto → Prop := fun tm' sto' => AGood P f fn df k (Rad.prune ps tm') sto' R
  have hQ : ∀ G' tm' sto' a' w', K tm' sto' → Sim G fn.ntmps a.defers tm' sto' a' w' G' → (fun e a' w' => e = Exit.normal ∧ Good P f (Post E R) b k a' w') .normal a' w' := fun G' tm' sto' a' w' hk hs =>
    ⟨rfl, hk.go E G' a' w' b h1 h2 h3 hs.n (hs.d ▸ h5.mono hs.ext.toMono) (h6.trans hs.ext) hs.wok hs.sok (hs.tok.prune ps)⟩
  obtain ⟨hw1, hs1⟩ := world_grown (w' := { w with drawn := w.drawn + 1 }) (Kept.draw w _) h7 h8 (Nat.le_refl _) (fun _ _ => rfl)
  have hsz : ops.toArray.size = ops.length := by simp
  rw [hsz]
  exact ways_sound hL hall hns (fun c a w h => by cases h.1) hQ t _ tm sto a _ G _ hw hdp ⟨.refl G, hw1, hs1, h9, h4, rfl⟩ (h K fun _ _ h => h)
end Go.Rad
/- The driver's name for a walk along all orders of a region. -/
namespace Go.Rad
open Go Go.Proofs
theorem gWy {f : Nat} {fn : Func} {df : List DDel} {k : List Item} {tm : Tm} {sto : Sto} {R : AVal → Sto → Prop} (id : Nat) (z : List Nat) (t : Ways) {ops : List Oper} (ps : List Nat)
    (h : ∀ K : Tm → Sto → Prop, (∀ tm' sto', AGood Try.prog f fn df k (Rad.prune ps tm') sto' R → K tm' sto') → vcW LL Try.prog z (ops.map (·.dst)) ops t tm sto K)
    (hok : (okOps LL fn.ntmps ops && Region.noSelect ops.toArray && t.ok ops (Array.replicate ops.length false) && Nat.ble t.deep ops.length) = true := by kernel_rfl) :
    AGood Try.prog f fn df (.code (.region id ops.toArray true) :: k) tm sto R := .ways LL_ok mixed t z ps hok h
end Go.Rad
/- A row of bytes as a tree, and its places. -/
namespace Go.Rad
open Go Fo
def soloS (n : Nat) : ISet := ISet.none.set (n / 64) (IntKind.u64.wrap (1 * 2 ^ (n % 64)))
theorem soloS_ne : ∀ n, n < 256 → (soloS n ≠ ISet.none ∧ 0 ≤ (soloS n).a ∧ 0 ≤ (soloS n).b ∧ 0 ≤ (soloS n).c ∧ 0 ≤ (soloS n).d) := by decide +kernel
abbrev byB (c : Nat) : Lb := ⟨2, soloS c, 0, 0, ByteArray.empty⟩
abbrev byN (c : Nat) : Node := ⟨2, soloS c, [], 0, 0, ByteArray.empty⟩
def byteF : List Nat → Fo
  | [] => .nil
  | c :: bs => .node (byB c) .nil (byteF bs)
def wordF (bs : List Nat) : Fo := .node (opL 3) (byteF bs) .nil
theorem byteF_len : ∀ bs, (byteF bs).deg = bs.length ∧ (byteF bs).size = bs.length
  | [] => ⟨rfl, rfl⟩
  | c :: bs => by
    obtain ⟨h1, h2⟩ := byteF_len bs
    simp only [byteF, deg, size, h1, h2, List.length_cons]
    exact ⟨trivial, by omega⟩
theorem byteF_lay : ∀ bs i, (byteF bs).lay i = bs.map byN
  | [], _ => rfl
  | c :: bs, i => by simp only [byteF, lay, List.nil_append, byteF_lay bs, List.map_cons]; rfl
def ups (i n : Nat) : List Int := (List.range n).map fun j => ((i + j : Nat) : Int)
theorem byteF_roots : ∀ bs i, (byteF bs).roots i = ups i bs.length
  | [], _ => rfl
  | c :: bs, i => by
    simp only [byteF, roots, byteF_roots bs, ups, List.length_cons, List.range_succ_eq_map, List.map_cons, List.map_map, size, Nat.add_zero]
    congr 1
    refine List.map_congr_left fun j _ => ?_
    simp only [Function.comp]
    omega
theorem ups_succ (i n : Nat) : ups i (n + 1) = ups i n ++ [((i + n : Nat) : Int)] := by simp [ups, List.range_succ]
theorem ups_cons (i n : Nat) : ups i (n + 1) = (i : Int) :: ups (i + 1) n := by
  simp only [ups, List.range_succ_eq_map, List.map_cons, List.map_map, Nat.add_zero]
  congr 1
  refine List.map_congr_left fun j _ => ?_
  simp only [Function.comp]
  omega
theorem word_lay (bs : List Nat) : (wordF bs).lay 0 = bs.map byN ++ [⟨3, ISet.none, ups 0 bs.length, 0, 0, ByteArray.empty⟩] := by
  simp only [wordF, lay, byteF_lay, byteF_roots]
  rfl
theorem byteF_ok {bs : List Nat} (h : ∀ c ∈ bs, c < 256) : (byteF bs).shapeF = true ∧ no6 (byteF bs) = true ∧ isP (byteF bs) = true := by
  induction bs with
  | nil => exact ⟨rfl, rfl, rfl⟩
  | cons c bs ih =>
    obtain ⟨h1, h2, h4⟩ := ih fun x hx => h x (by simp [hx])
    have h3 := (soloS_ne c (h c (by simp))).1
    have hs : shapeL (byB c) 0 = true := by simp [shapeL, shapeOk, h3]
    simp only [shapeF] at h1
    simp only [isP] at h4
    refine ⟨?_, ?_, ?_⟩
    · simp only [byteF, shapeF, all, deg, hs, h1]; rfl
    · simp only [byteF, all, h2]; rfl
    · simp only [byteF, isP, all, h4]; rfl
theorem word_ok {bs : List Nat} (h : ∀ c ∈ bs, c < 256) (h2 : 2 ≤ bs.length) : (wordF bs).deg = 1 ∧ (wordF bs).shapeF = true ∧ no6 (wordF bs) = true ∧ (wordF bs).size = bs.length + 1 ∧ isP (wordF bs) = true := by
  obtain ⟨h3, h4, h7⟩ := byteF_ok h
  obtain ⟨h5, h6⟩ := byteF_len bs
  refine ⟨rfl, ?_, ?_, ?_, ?_⟩
  · have hs : shapeL (opL 3) bs.length = true := shapeL_cat h2
    simp only [shapeF] at h3
    simp only [wordF, shapeF, all, h5, hs, h3]; rfl
  · simp only [wordF, all, h4]; rfl
  · simp only [wordF, size, h6]
  · simp only [isP] at h7
    simp only [wordF, isP, all, h7]; rfl
def oneE (k : Int) : En := ⟨false, [k], [k]⟩
def poB (rule : Int) (c : Nat) : Po := ⟨soloS c, 1, 1, rule, false, []⟩
theorem glF_bytes (rule : Int) : ∀ (bs : List Nat) (ps : List Po), glF rule (byteF bs) ps = (ps ++ bs.map (poB rule), (ups ps.length bs.length).map oneE)
  | [], ps => by simp [byteF, glF, ups]
  | c :: bs, ps => by
    have h1 : nodeG rule (byB c) (setOf .nil) [] ps = (ps ++ [poB rule c], oneE ps.length) := rfl
    simp only [byteF, glF]
    rw [if_neg (show ¬ cntd (byB c) = true by simp [cntd])]
    simp only [h1, glF_bytes rule bs, List.length_cons, ups_cons, List.map_cons, List.length_append, List.length_nil, List.append_assoc, List.cons_append, List.nil_append, Nat.zero_add]
/-- The places of a row of bytes: so many of them are linked. -/
def wQ (n : Nat) (bs : List Nat) : List Po := bs.mapIdx fun i c => ⟨soloS c, 1, 1, 0, false, if i + 1 < n then [((i + 1 : Nat) : Int)] else []⟩
def wE (n : Nat) : En := if n = 0 then ⟨true, [], []⟩ else ⟨false, [0], [((n - 1 : Nat) : Int)]⟩
theorem wQ_step (bs : List Nat) {n : Nat} (h : n < bs.length) : thenG (wQ n bs, wE n) (oneE n) = (wQ (n + 1) bs, wE (n + 1)) := by
  cases n with
  | zero =>
    refine Prod.ext ?_ ?_
    · show wQ 0 bs = wQ 1 bs
      unfold wQ
      congr 1
    · rfl
  | succ n =>
    refine Prod.ext ?_ ?_
    · show lnk1 [((n + 1 : Nat) : Int)] (wQ (n + 1) bs) ((n + 1 - 1 : Nat) : Int) = wQ (n + 2) bs
      rw [Nat.add_sub_cancel, lnk1, Int.toNat_natCast]
      refine List.ext_getElem (by simp [wQ]) fun i h1 h2 => ?_
      rw [List.getElem_modify]
      simp only [wQ, List.getElem_mapIdx]
      by_cases e : n = i
      · subst e
        rw [if_pos rfl, if_neg (by omega), if_pos (by omega)]
        rfl
      · rw [if_neg e]
        by_cases e2 : i + 1 < n + 1
        · rw [if_pos e2, if_pos (by omega)]
        · rw [if_neg e2, if_neg (by omega)]
    · rfl
theorem wQ_all (bs : List Nat) : ∀ m, m ≤ bs.length → ((ups 0 m).map oneE).foldl thenG (wQ 0 bs, wE 0) = (wQ m bs, wE m)
  | 0, _ => rfl
  | m + 1, h => by
    rw [ups_succ, List.map_append, List.foldl_append, wQ_all bs m (by omega), Nat.zero_add]
    exact wQ_step bs (by omega)
/-- The places of a row of bytes. -/
def wPs (bs : List Nat) : List Po := bs.mapIdx fun i c => ⟨soloS c, 1, 1, 0, decide (i + 1 = bs.length), if i + 1 < bs.length then [((i + 1 : Nat) : Int)] else []⟩
theorem word_places {bs : List Nat} (h : ∀ c ∈ bs, c < 256) (h2 : 2 ≤ bs.length) (h3 : bs.length ≤ 60) : ofG [(wordF bs).lay 0] = ([0], wPs bs, 0) := by
  obtain ⟨o1, o2, o3, o4, o5⟩ := word_ok h h2
  have hr : rightP ((wordF bs).lay 0) = true := by rw [right_fo o1 o2 (by omega) o3]; exact o5
  obtain ⟨t1, t2, _⟩ := list_tree o1 o2 o5 0 []
  have hg : glF 0 (wordF bs) [] = (wQ bs.length bs, [wE bs.length]) := by
    have h0 : bs.map (poB 0) = wQ 0 bs := by
      refine List.ext_getElem (by simp [wQ]) fun i h1 h2 => ?_
      simp only [wQ, List.getElem_mapIdx, List.getElem_map]
      rw [if_neg (by omega)]
      rfl
    have h1 : ∀ (s : ISet) (ks : List En) (ps : List Po), nodeG 0 (opL 3) s ks ps = catG ps ks := fun s ks ps => rfl
    have h4 : glF 0 (.node (opL 3) (byteF bs) .nil) [] = ((catG (glF 0 (byteF bs) []).1 (glF 0 (byteF bs) []).2).1, [(catG (glF 0 (byteF bs) []).1 (glF 0 (byteF bs) []).2).2]) := rfl
    rw [wordF, h4, glF_bytes, List.nil_append, h0]
    have := wQ_all bs bs.length (Nat.le_refl _)
    simp only [catG, List.length_nil]
    rw [show (⟨true, [], []⟩ : En) = wE 0 from rfl, this]
  rw [hg] at t1 t2
  simp only [List.headD_cons] at t1 t2
  have ho : oneO ((wordF bs).lay 0) 0 [] = (wPs bs, wE bs.length) := by
    rw [oneO, show ((0 : Nat) : Int) = 0 from rfl, t1, t2]
    refine Prod.ext ?_ rfl
    simp only [wE, if_neg (show ¬ bs.length = 0 by omega)]
    show mrk1 (wQ bs.length bs) ((bs.length - 1 : Nat) : Int) = wPs bs
    rw [mrk1, Int.toNat_natCast]
    refine List.ext_getElem (by simp [wQ, wPs]) fun i h1 h2 => ?_
    rw [List.getElem_modify]
    simp only [wQ, wPs, List.getElem_mapIdx]
    by_cases e : bs.length - 1 = i
    · rw [if_pos e, decide_eq_true (by omega)]
    · rw [if_neg e, decide_eq_false (by omega)]
  rw [ofG, if_neg (by simp [hr]), goO, ho, if_neg (by simp [wPs]; omega)]
  simp only [wE, if_neg (show ¬ bs.length = 0 by omega)]
  rfl
end Go.Rad
/- Ghost steps between a region's operations. -/
namespace Go.Rad
open Go
section
variable {P : Program} {f : Nat} {fn : Func} {ops : List Oper} {n : Nat} {k : List Item} {tm : Tm} {sto : Sto} {R : AVal → Sto → Prop}
theorem RGood.freeze (id : Nat) {g esz : Nat} {l : List (List AVal)} (hget : sget sto id = some (g, .row esz l)) (h : RGood P f fn [] ops n k (rfT id g l tm) (rfS id g l (sdel sto id)) R) : RGood P f fn [] ops n k tm sto R := by
  refine ⟨?_⟩
  intro E G a w b h1 h2 h3 h4 h5 h6 h7 h8 h9
  obtain ⟨G', hext, hw', hs', hr⟩ := all_freeze h7 h8 hget
  have hd : a.defers = [] := by
    cases hd : a.defers with
    | nil => rfl
    | cons => rw [hd] at h5; simp [DfOk] at h5
  exact h.go E G' a w b h1 h2 h3 h4 (by rw [hd]; trivial) (h6.trans hext) hw' hs' fun t => by rw [lk_rfT]; exact hr _ _ (h9 t)
theorem RGood.reRow {df : List DDel} (id : Nat) {g esz : Nat} {l : List (List AVal)} (l' : List (List AVal)) (hg : sget sto id = some (g, .row esz l)) (hl : l = l') (h : RGood P f fn df ops n k tm (sput sto id (g, .row esz l')) R) : RGood P f fn df ops n k tm sto R := by
  subst hl
  have hs : ∀ i, sget (sput sto id (g, .row esz l)) i = sget sto i := by
    intro i
    rw [sget_sput]
    split
    · rename_i e; subst e; exact hg.symm
    · rfl
  refine ⟨fun E G a w b h1 h2 h3 h4 h5 h6 h7 h8 h9 => h.go E G a w b h1 h2 h3 h4 h5 h6 h7 ⟨fun i g' o hi => ?_, fun i i' g1 g2 o o' hi hi' => ?_⟩ h9⟩
  · rw [hs] at hi; exact h8.obj _ _ _ hi
  · rw [hs] at hi hi'; exact h8.apart _ _ _ _ _ _ hi hi'
end
end Go.Rad
/- The statements of layer 9: GlushWord. -/
namespace Go.Rad
open Go Go.Proofs
set_option linter.all false
set_option maxRecDepth 20000
set_option maxHeartbeats 4000000

theorem with_solo : ∀ n, n < 256 → withI ISet.none n = soloS n := by decide +kernel
theorem solo_c (f : Bool) (c : Nat) (h : c < 256) : ACall Try.prog 14 [.sl true f [[.int .u8 (c : Int)]]] [] fun r s => r = .agg [.int .u64 (soloS c).a, .int .u64 (soloS c).b, .int .u64 (soloS c).c, .int .u64 (soloS c).d] ∧ s = [] := by
  have := of_c true f [c] (by simp; omega) (by simp)
  rw [List.foldl_cons, List.foldl_nil, with_solo c h] at this
  exact this
theorem kks_bytes {l : List Int} (h : ∀ n ∈ l, fits .u8 n) : (l.map fun n => [AVal.int .u8 n]) = bytesL (l.map Int.toNat) ∧ ∀ c ∈ l.map Int.toNat, c < 256 := by
  have h2 : ∀ n ∈ l, 0 ≤ n ∧ n ≤ 255 := fun n hn => h n hn
  refine ⟨?_, fun c hc => ?_⟩
  · simp only [bytesL, List.map_map]
    refine List.map_congr_left fun n hn => ?_
    have := h2 n hn
    simp only [Function.comp]
    rw [Int.toNat_of_nonneg this.1]
  · obtain ⟨n, hn, rfl⟩ := List.mem_map.1 hc
    have := h2 n hn
    omega
theorem glushWord_c (b : List Int) (hbl : b.length ≤ maxLen) (hbf : ∀ n ∈ b, fits .u8 n) :
    ACall Try.prog 5 [.sl true false (b.map fun n => [.int .u8 n])] [] fun r _ => r = .bool true := by
  obtain ⟨e1, e2⟩ := kks_bytes hbf
  rw [e1]
  have hbl2 : (b.map Int.toNat).length ≤ maxLen := by rw [List.length_map]; exact hbl
  generalize b.map Int.toNat = B at e2 hbl2
  clear e1 hbf hbl
  unfold maxLen at hbl2
  obtain ⟨k, hk⟩ : ∃ k, k = min B.length 60 := ⟨_, rfl⟩
  have k1 : min (B.length : Int) 60 = (k : Int) := by omega
  have k2 : (0 : Int) ≤ k := by omega
  have k3 : k ≤ B.length := by omega
  have hx : ∀ c ∈ B.take k, c < 256 := fun c hc => e2 c (List.mem_of_mem_take hc)
  have hxl : (B.take k).length = k := by rw [List.length_take]; omega
  have k4 : (bytesL B).take k = bytesL (B.take k) := by simp [List.map_take]
  have k5 : k ≤ 60 := by omega
  generalize B.take k = x at hx hxl k4
  subst hxl
  have hbl : (bytesL B).length = B.length := by simp
  clear hk e2
  by_cases hs : x.length < 2
  · have c1 : (x.length : Int) < 2 := by omega
    refine ACall.enter Try.func5 rfl (by kernel_rfl) (Nat.le_of_ble_eq_true rfl) ?_; simp only [initTm, Nat.reduceAdd]
    repeat' (first
  | refine gSq ?_ | refine gSk ?_ | refine gBl ?_ | refine gIb ?_ | refine gEx rfl ?_
  | ((first
  | (refine gRg [] [0, 2, 3, 4, 5, 6, 7, 8, 9, 10, 11, 12, 13, 22, 24, 25, 26, 27, 75, 77, 78, 79, 80, 138] ?_; intro K hK)
  | (refine gDr 20 [] 6 [0, 1, 2, 3, 4, 5, 6, 7, 8, 9, 10, 11, 12, 13, 14, 15, 16, 17, 18, 19, 20, 21, 22, 23, 24, 25, 26, 27, 28, 29, 30, 31, 32, 33, 34, 35, 36, 37, 38, 39, 40, 41, 42, 43, 44, 45, 46, 47, 48, 49] [0, 2, 3, 4, 5, 6, 7, 8, 9, 10, 11, 12, 13, 22, 24, 25, 26, 27, 75, 77, 78, 79, 80, 138] rfl ?_; intro K hK)
  | refine cAl (shown9uc) rfl rfl rfl ?_
  | (refine gd_split ?_ ?_ <;> intro hb <;> (try simp only [bls] at hb) <;> (try simp only [hb]))
  | refine gRt [] [.tmp 2] rfl ?_ | refine gDn [] [.tmp 2] rfl ?_) <;> (try simp only [go_sem, simprocAttr, k1, k2, k3, k4, c1, slFull, intArg, Bool.false_and]))
  | (refine hK _ _ ?_; clear hK K; simp only [go_sem, simprocAttr])
  | refine gCd (by simp only [go_sem, simprocAttr]; rfl) rfl ?_
  | refine brT ?_ | refine brF ?_
  | (refine brS ?_ ?_ <;> intro hc <;> (try simp only [bls] at hc) <;> (try simp only [hc, bls]))
  | intro _ | refine And.intro ?_ ?_)
    all_goals first | omega | (unfold bigLen; omega) | exact ⟨_, _, ⟨rfl, rfl⟩, rfl⟩ | exact ⟨_, rfl⟩ | (rename_i hy; simp only [List.mem_singleton] at hy; subst hy; rfl) | with_reducible rfl | skip
    all_goals exact .inl trivial
  · have c1 : ¬ (x.length : Int) < 2 := by omega
    have h2 : 2 ≤ x.length := by omega
    have hO := fun f => of9F_c f [(wordF x).lay 0] (by simp) (fun y hy => by
      rw [List.mem_singleton.1 hy, word_lay]
      intro n hn
      rcases List.mem_append.1 hn with hn | hn
      · obtain ⟨c, _, rfl⟩ := List.mem_map.1 hn
        exact ⟨by show _ ≤ maxLen; simp [maxLen], by show _ ≤ maxLen; simp [maxLen]⟩
      · rw [List.mem_singleton.1 hn]
        exact ⟨by show _ ≤ maxLen; simp [maxLen], by show _ ≤ maxLen; simp [maxLen, ups]; omega⟩)
    rw [word_places hx h2 k5, word_lay] at hO
    obtain ⟨F0, hF0⟩ : ∃ F0 : List Int, F0 = [0] := ⟨_, rfl⟩
    rw [← hF0] at hO
    have l1 : (F0.length : Int) = 1 := by rw [hF0]; rfl
    have l2 : F0[0]? = some 0 := by rw [hF0]; rfl
    have l3 : (0 : Int) < F0.length := by omega
    clear hF0
    obtain ⟨W, hW⟩ : ∃ W, W = x.map byN ++ [⟨3, ISet.none, ups 0 x.length, 0, 0, ByteArray.empty⟩] := ⟨_, rfl⟩
    rw [← hW] at hO
    have hWl : W.length = x.length + 1 := by rw [hW]; simp
    have hQl : (wPs x).length = x.length := by simp [wPs]
    have hQg : ∀ (i c : Nat), x[i]? = some c → (wPs x)[i]? = some ⟨soloS c, 1, 1, 0, decide (i + 1 = x.length), if i + 1 < x.length then [((i + 1 : Nat) : Int)] else []⟩ := fun i c h => by
      obtain ⟨h1, h3⟩ := List.getElem?_eq_some_iff.1 h
      rw [List.getElem?_eq_getElem (by simp [wPs]; exact h1)]
      simp only [wPs, List.getElem_mapIdx, h3]
    generalize wPs x = Q at hO hQl hQg
    simp only [trees, List.map_cons, List.map_nil] at hO
    have hOf := fun f c h => solo_c f c h
    refine ACall.enter Try.func5 rfl (by kernel_rfl) (Nat.le_of_ble_eq_true rfl) ?_; simp only [initTm, Nat.reduceAdd]
    repeat' (first
  | refine gSq ?_ | refine gSk ?_ | refine gBl ?_ | refine gIb ?_ | refine gEx rfl ?_
  | ((first
  | (refine gRg [] [0, 2, 3, 4, 5, 6, 7, 8, 9, 10, 11, 12, 13, 22, 24, 25, 26, 27, 75, 77, 78, 79, 80, 138] ?_; intro K hK)
  | (refine gDr 20 [] 6 [0, 1, 2, 3, 4, 5, 6, 7, 8, 9, 10, 11, 12, 13, 14, 15, 16, 17, 18, 19, 20, 21, 22, 23, 24, 25, 26, 27, 28, 29, 30, 31, 32, 33, 34, 35, 36, 37, 38, 39, 40, 41, 42, 43, 44, 45, 46, 47, 48, 49] [0, 2, 3, 4, 5, 6, 7, 8, 9, 10, 11, 12, 13, 22, 24, 25, 26, 27, 75, 77, 78, 79, 80, 138] rfl ?_; intro K hK)
  | refine cAl (shown9uc) rfl rfl rfl ?_
  | (refine gd_split ?_ ?_ <;> intro hb <;> (try simp only [bls] at hb) <;> (try simp only [hb]))
  | refine gRt [] [.tmp 2] rfl ?_ | refine gDn [] [.tmp 2] rfl ?_) <;> (try simp only [go_sem, simprocAttr, k1, k2, k3, k4, c1, slFull, intArg, Bool.false_and]))
  | (refine hK _ _ ?_; clear hK K; simp only [go_sem, simprocAttr])
  | refine gCd (by simp only [go_sem, simprocAttr]; rfl) rfl ?_
  | refine brT ?_ | refine brF ?_
  | (refine brS ?_ ?_ <;> intro hc <;> (try simp only [bls] at hc) <;> (try simp only [hc, bls]))
  | intro _ | refine And.intro ?_ ?_)
    all_goals first | omega | (unfold bigLen; omega) | exact ⟨_, _, ⟨rfl, rfl⟩, rfl⟩ | exact ⟨_, rfl⟩ | (rename_i hy; simp only [List.mem_singleton] at hy; subst hy; rfl) | with_reducible rfl | skip
    · exact .inl trivial
    refine AGood.ownTm 5 900 9 (by decide) rfl fun g10 => ?_
    simp only [go_sem, simprocAttr]
    refine AGood.ownTm 6 901 1 (by decide) rfl fun g11 => ?_
    simp only [go_sem, simprocAttr]
    refine AGood.prune [2, 3, 4, 5, 6, 24, 25, 26] ?_; simp only [go_sem, simprocAttr]
    refine AGood.loopInv (α := Nat × Nat × Nat) (fun z => ([(2, .bool false), (3, .bool true), (4, .sl true false (bytesL x)), (5, .osl 900 z.2.1 0 z.1), (6, .osl 901 z.2.2 0 z.1), (24, .sl true false (bytesL x)), (25, .int .i64 x.length), (26, .int .i64 z.1)], [(900, (z.2.1, .row 9 (nodes ((x.take z.1).map byN)))), (901, (z.2.2, .row 1 (ints (ups 0 z.1))))])) (fun z => z.1 ≤ x.length) (fun z => x.length - z.1) (0, g10, g11) (Nat.zero_le _) (by simp [ups]) ?_
    rintro ⟨i, g10, g11⟩ hi ih
    simp only at hi ih ⊢
    have hql : ((x.take i).map byN).length = i := by simp; omega
    have hul : (ups 0 i).length = i := by simp [ups]
    by_cases hle : i < x.length
    · have f4 : (i : Int) < x.length := by omega
      have f5 : (0 : Int) ≤ i := by omega
      have f6 : (i : Int) + 1 = ((i + 1 : Nat) : Int) := by omega
      obtain ⟨c, hc⟩ : ∃ c, x[i]? = some c := ⟨_, List.getElem?_eq_getElem hle⟩
      have hc2 := hx c (List.mem_of_getElem? hc)
      have hq1 : (x.take (i + 1)).map byN = (x.take i).map byN ++ [byN c] := by rw [take_one hc]; simp
      have hu1 : ups 0 (i + 1) = ups 0 i ++ [(i : Int)] := by rw [ups_succ, Nat.zero_add]
      generalize ups 0 i = us at hul hu1 ⊢
      generalize (x.take i).map byN = V at hql hq1 ⊢
      have hv : (bytesL x)[i]? = some [.int .u8 (c : Int)] := by simp [bytesL, hc]
      repeat' (first
  | refine gSq ?_ | refine gSk ?_ | refine gBl ?_ | refine gIb ?_ | refine gEx rfl ?_
  | ((first
  | (refine gRg [33, 36, 40] [0, 2, 3, 4, 5, 6, 7, 8, 9, 10, 11, 12, 13, 22, 24, 25, 26, 27, 75, 77, 78, 79, 80, 138] ?_; intro K hK)
  | (refine gDr 20 [33, 36, 40] 6 [0, 1, 2, 3, 4, 5, 6, 7, 8, 9, 10, 11, 12, 13, 14, 15, 16, 17, 18, 19, 20, 21, 22, 23, 24, 25, 26, 27, 28, 29, 30, 31, 32, 33, 34, 35, 36, 37, 38, 39, 40, 41, 42, 43, 44, 45, 46, 47, 48, 49] [0, 2, 3, 4, 5, 6, 7, 8, 9, 10, 11, 12, 13, 22, 24, 25, 26, 27, 75, 77, 78, 79, 80, 138] rfl ?_; intro K hK)
  | refine cAl (hOf _ _ hc2) rfl rfl rfl ?_
  | (refine gd_split ?_ ?_ <;> intro hb <;> (try simp only [bls] at hb) <;> (try simp only [hb]))
  | refine gRt [] [.tmp 2] rfl ?_ | refine gDn [] [.tmp 2] rfl ?_) <;> (try simp only [go_sem, simprocAttr, f4, f5, f6, hc, hv, AVal.isCell, Option.some.injEq, forall_eq']))
  | (refine hK _ _ ?_; clear hK K; simp only [go_sem, simprocAttr])
  | refine gCd (by simp only [go_sem, simprocAttr]; rfl) rfl ?_
  | refine brT ?_ | refine brF ?_
  | (refine brS ?_ ?_ <;> intro hc <;> (try simp only [bls] at hc) <;> (try simp only [hc, bls]))
  | intro _ | refine And.intro ?_ ?_)
      all_goals first | omega | (unfold bigLen; omega) | exact ⟨_, _, ⟨rfl, rfl⟩, rfl⟩ | exact ⟨_, rfl⟩ | (rename_i hy; simp only [List.mem_singleton] at hy; subst hy; rfl) | with_reducible rfl | skip
      rename_i h10 h11
      refine AGood.filt [900, 901] ?_
      simp only [sf_cons, sf_nil, go_sem, simprocAttr]
      refine AGood.prune [2, 3, 4, 5, 6, 24, 25, 26] ?_; simp only [go_sem, simprocAttr]
      refine AGood.cast (ih (i + 1, h10, h11) (by simp only; omega) (by simp only; omega)) (by simp only [hql, hul]) ?_
      simp only [hq1, hu1, List.map_append]
      rfl
    · have f4 : ¬ (i : Int) < x.length := by omega
      have hin : i = x.length := by omega
      clear ih
      rw [List.take_of_length_le (by omega)] at hql ⊢
      subst hin
      have u15 : (ints (ups 0 x.length)).take x.length = ints (ups 0 x.length) := List.take_of_length_le (by simp [hul])
      have u16 : x.length ≤ (ups 0 x.length).length := by omega
      have w15 : (nodes W).take (x.length + 1) = nodes W := List.take_of_length_le (by simp [hWl])
      have w16 : x.length + 1 ≤ W.length := by omega
      repeat' (first
  | refine gSq ?_ | refine gSk ?_ | refine gBl ?_ | refine gIb ?_ | refine gEx rfl ?_
  | ((first
  | refine gPt 13 ?_
  | ((refine RGood.freeze 901 rfl ?_); (simp only [rfT, rfS, rfO, rf, rf1, u15, u16, List.length_map, Nat.le_refl, true_and, go_sem, simprocAttr]); refine gSg [47, 49] 0 5 5 [0, 2, 3, 4, 5, 6, 7, 8, 9, 10, 11, 12, 13, 22, 24, 25, 26, 27, 48, 75, 77, 78, 79, 80, 138] rfl ?_; intro K hK)
  | ((refine RGood.reRow 900 (nodes W) rfl (by rw [hW]; simp only [nodes, List.map_append]; rfl) ?_); (simp only [go_sem, simprocAttr]); (refine RGood.freeze 900 rfl ?_); (simp only [rfT, rfS, rfO, rf, rf1, w15, w16, List.length_map, Nat.le_refl, true_and, go_sem, simprocAttr]); refine gSg [47, 49] 5 8 13 [0, 2, 3, 4, 5, 6, 7, 8, 9, 10, 11, 12, 13, 22, 24, 25, 26, 27, 75, 77, 78, 79, 80, 138] rfl ?_; intro K hK)
  | (refine gFn 13 [0, 2, 3, 4, 5, 6, 7, 8, 9, 10, 11, 12, 13, 22, 24, 25, 26, 27, 75, 77, 78, 79, 80, 138] rfl ?_)
  | (refine gRg [47, 49] [0, 2, 3, 4, 5, 6, 7, 8, 9, 10, 11, 12, 13, 22, 24, 25, 26, 27, 75, 77, 78, 79, 80, 138] ?_; intro K hK)
  | (refine gDr 20 [47, 49] 6 [0, 1, 2, 3, 4, 5, 6, 7, 8, 9, 10, 11, 12, 13, 14, 15, 16, 17, 18, 19, 20, 21, 22, 23, 24, 25, 26, 27, 28, 29, 30, 31, 32, 33, 34, 35, 36, 37, 38, 39, 40, 41, 42, 43, 44, 45, 46, 47, 48, 49] [0, 2, 3, 4, 5, 6, 7, 8, 9, 10, 11, 12, 13, 22, 24, 25, 26, 27, 75, 77, 78, 79, 80, 138] rfl ?_; intro K hK)
  | refine cAl (hO _) rfl rfl rfl ?_
  | (refine gd_split ?_ ?_ <;> intro hb <;> (try simp only [bls] at hb) <;> (try simp only [hb]))
  | refine gRt [] [.tmp 2] rfl ?_ | refine gDn [] [.tmp 2] rfl ?_) <;> (try simp only [go_sem, simprocAttr, f4, l2, l3, eq_true l1, forall_eq', Option.some.injEq, beq_self_eq_true, AVal.isCell, hQl]))
  | (refine hK _ _ ?_; clear hK K; simp only [go_sem, simprocAttr])
  | refine gCd (by simp only [go_sem, simprocAttr]; rfl) rfl ?_
  | refine brT ?_ | refine brF ?_
  | (refine brS ?_ ?_ <;> intro hc <;> (try simp only [bls] at hc) <;> (try simp only [hc, bls]))
  | intro _ | refine And.intro ?_ ?_)
      all_goals first | omega | (unfold bigLen; omega) | exact ⟨_, _, ⟨rfl, rfl⟩, rfl⟩ | exact ⟨_, rfl⟩ | (rename_i hy; simp only [List.mem_singleton] at hy; subst hy; rfl) | with_reducible rfl | skip
      clear hO hW hWl w15 w16 u15 u16 hql hul l1 l2 l3 f4
      refine AGood.filt [] ?_
      simp only [sf_cons, sf_nil, go_sem, simprocAttr]
      refine AGood.prune [2, 3, 4, 77, 78, 79] ?_; simp only [go_sem, simprocAttr]
      refine AGood.loopInv (α := Nat) (fun j => ([(2, .bool false), (3, .bool true), (4, .sl true false (bytesL x)), (77, .sl true false (poss Q)), (78, .int .i64 x.length), (79, .int .i64 j)], [])) (fun j => j ≤ x.length) (fun j => x.length - j) 0 (Nat.zero_le _) rfl ?_
      rintro j hj ih
      simp only at hj ih ⊢
      by_cases hle : j < x.length
      · have e4 : (j : Int) < x.length := by omega
        have e5 : (0 : Int) ≤ j := by omega
        have e6 : (j : Int) + 1 = ((j + 1 : Nat) : Int) := by omega
        obtain ⟨c, hc⟩ : ∃ c, x[j]? = some c := ⟨_, List.getElem?_eq_getElem hle⟩
        have hc2 := hx c (List.mem_of_getElem? hc)
        have hv : (bytesL x)[j]? = some [.int .u8 (c : Int)] := by simp [bytesL, hc]
        have hq := hQg j c hc
        have hof := fun f => hOf f c hc2
        clear hQg hOf
        generalize soloS c = S0 at hq hof
        obtain ⟨sa, sb, sc, sd⟩ := S0
        simp only at hof
        by_cases hl : j + 1 = x.length
        · rw [decide_eq_true hl, if_neg (by omega)] at hq
          have e7 : (j : Int) = (x.length : Int) - 1 := by omega
          have e8 : min ((x.length : Int) - 1 - j) 1 = 0 := by omega
          obtain ⟨N0, hN0⟩ : ∃ N0 : List Int, N0 = [] := ⟨_, rfl⟩
          rw [← hN0] at hq
          have n1 : (N0.length : Int) = 0 := by rw [hN0]; rfl
          clear hN0
          repeat' (first
  | refine gSq ?_ | refine gSk ?_ | refine gBl ?_ | refine gIb ?_ | refine gEx rfl ?_
  | ((first
  | (refine gRg [95] [0, 2, 3, 4, 5, 6, 7, 8, 9, 10, 11, 12, 13, 22, 24, 25, 26, 27, 75, 77, 78, 79, 80, 138] ?_; intro K hK)
  | (refine gDr 20 [95] 50 [0, 1, 2, 3, 4, 5, 6, 7, 8, 9, 10, 11, 12, 13, 14, 15, 16, 17, 18, 19, 20, 21, 22, 23, 24, 25, 26, 27, 28, 29, 30, 31, 32, 33, 34, 35, 36, 37, 38, 39, 40, 41, 42, 43, 44, 45, 46, 47, 48, 49] [0, 2, 3, 4, 5, 6, 7, 8, 9, 10, 11, 12, 13, 22, 24, 25, 26, 27, 75, 77, 78, 79, 80, 138] rfl ?_; intro K hK)
  | refine ⟨_, ACall.alone (hof _) rfl rfl rfl, ?_⟩
  | (refine gd_split ?_ ?_ <;> intro hb <;> (try simp only [bls] at hb) <;> (try simp only [hb]))
  | refine gRt [] [.tmp 2] rfl ?_ | refine gDn [] [.tmp 2] rfl ?_) <;> (try simp only [go_sem, simprocAttr, e4, e5, e6, eq_true e7, e8, n1, hc, hv, hq, Po.cells, Po.cellsF, ISet.cells, AVal.isCell, eq_self, beq_self_eq_true, Option.some.injEq, forall_eq']))
  | (refine hK _ _ ?_; clear hK K; simp only [go_sem, simprocAttr])
  | refine gCd (by simp only [go_sem, simprocAttr]; rfl) rfl ?_
  | refine brT ?_ | refine brF ?_
  | (refine brS ?_ ?_ <;> intro hc <;> (try simp only [bls] at hc) <;> (try simp only [hc, bls]))
  | intro _ | refine And.intro ?_ ?_)
          all_goals first | omega | (unfold bigLen; omega) | exact ⟨_, _, ⟨rfl, rfl⟩, rfl⟩ | exact ⟨_, rfl⟩ | (rename_i hy; simp only [List.mem_singleton] at hy; subst hy; rfl) | with_reducible rfl | skip
          refine AGood.filt [] ?_
          simp only [sf_cons, sf_nil, go_sem, simprocAttr]
          refine AGood.prune [2, 3, 4, 77, 78, 79] ?_; simp only [go_sem, simprocAttr]
          exact AGood.cast (ih (j + 1) (by omega) (by omega)) rfl rfl
        · rw [decide_eq_false hl, if_pos (by omega)] at hq
          have e7 : ¬ (j : Int) = (x.length : Int) - 1 := by omega
          have e8 : min ((x.length : Int) - 1 - j) 1 = 1 := by omega
          obtain ⟨N0, hN0⟩ : ∃ N0 : List Int, N0 = [((j + 1 : Nat) : Int)] := ⟨_, rfl⟩
          rw [← hN0] at hq
          have n1 : (N0.length : Int) = 1 := by rw [hN0]; rfl
          have n2 : N0[0]? = some ((j + 1 : Nat) : Int) := by rw [hN0]; rfl
          have n3 : (0 : Int) < N0.length := by omega
          clear hN0
          repeat' (first
  | refine gSq ?_ | refine gSk ?_ | refine gBl ?_ | refine gIb ?_ | refine gEx rfl ?_
  | ((first
  | (refine gRg [95] [0, 2, 3, 4, 5, 6, 7, 8, 9, 10, 11, 12, 13, 22, 24, 25, 26, 27, 75, 77, 78, 79, 80, 138] ?_; intro K hK)
  | (refine gDr 20 [95] 50 [0, 1, 2, 3, 4, 5, 6, 7, 8, 9, 10, 11, 12, 13, 14, 15, 16, 17, 18, 19, 20, 21, 22, 23, 24, 25, 26, 27, 28, 29, 30, 31, 32, 33, 34, 35, 36, 37, 38, 39, 40, 41, 42, 43, 44, 45, 46, 47, 48, 49] [0, 2, 3, 4, 5, 6, 7, 8, 9, 10, 11, 12, 13, 22, 24, 25, 26, 27, 75, 77, 78, 79, 80, 138] rfl ?_; intro K hK)
  | refine ⟨_, ACall.alone (hof _) rfl rfl rfl, ?_⟩
  | (refine gd_split ?_ ?_ <;> intro hb <;> (try simp only [bls] at hb) <;> (try simp only [hb]))
  | refine gRt [] [.tmp 2] rfl ?_ | refine gDn [] [.tmp 2] rfl ?_) <;> (try simp only [go_sem, simprocAttr, e4, e5, e6, e7, e8, eq_true n1, n2, n3, hc, hv, hq, Po.cells, Po.cellsF, ISet.cells, AVal.isCell, eq_self, beq_self_eq_true, Option.some.injEq, forall_eq']))
  | (refine hK _ _ ?_; clear hK K; simp only [go_sem, simprocAttr])
  | refine gCd (by simp only [go_sem, simprocAttr]; rfl) rfl ?_
  | refine brT ?_ | refine brF ?_
  | (refine brS ?_ ?_ <;> intro hc <;> (try simp only [bls] at hc) <;> (try simp only [hc, bls]))
  | intro _ | refine And.intro ?_ ?_)
          all_goals first | omega | (unfold bigLen; omega) | exact ⟨_, _, ⟨rfl, rfl⟩, rfl⟩ | exact ⟨_, rfl⟩ | (rename_i hy; simp only [List.mem_singleton] at hy; subst hy; rfl) | with_reducible rfl | skip
          refine AGood.filt [] ?_
          simp only [sf_cons, sf_nil, go_sem, simprocAttr]
          refine AGood.prune [2, 3, 4, 77, 78, 79] ?_; simp only [go_sem, simprocAttr]
          exact AGood.cast (ih (j + 1) (by omega) (by omega)) rfl rfl
      · have e4 : ¬ (j : Int) < x.length := by omega
        clear ih
        repeat' (first
  | refine gSq ?_ | refine gSk ?_ | refine gBl ?_ | refine gIb ?_ | refine gEx rfl ?_
  | ((first
  | (refine gRg [] [0, 2, 3, 4, 5, 6, 7, 8, 9, 10, 11, 12, 13, 22, 24, 25, 26, 27, 75, 77, 78, 79, 80, 138] ?_; intro K hK)
  | (refine gDr 20 [] 6 [0, 1, 2, 3, 4, 5, 6, 7, 8, 9, 10, 11, 12, 13, 14, 15, 16, 17, 18, 19, 20, 21, 22, 23, 24, 25, 26, 27, 28, 29, 30, 31, 32, 33, 34, 35, 36, 37, 38, 39, 40, 41, 42, 43, 44, 45, 46, 47, 48, 49] [0, 2, 3, 4, 5, 6, 7, 8, 9, 10, 11, 12, 13, 22, 24, 25, 26, 27, 75, 77, 78, 79, 80, 138] rfl ?_; intro K hK)
  | (refine gd_split ?_ ?_ <;> intro hb <;> (try simp only [bls] at hb) <;> (try simp only [hb]))
  | refine gRt [] [.tmp 2] rfl ?_ | refine gDn [] [.tmp 2] rfl ?_) <;> (try simp only [go_sem, simprocAttr, e4]))
  | (refine hK _ _ ?_; clear hK K; simp only [go_sem, simprocAttr])
  | refine gCd (by simp only [go_sem, simprocAttr]; rfl) rfl ?_
  | refine brT ?_ | refine brF ?_
  | (refine brS ?_ ?_ <;> intro hc <;> (try simp only [bls] at hc) <;> (try simp only [hc, bls]))
  | intro _ | refine And.intro ?_ ?_)
        all_goals first | omega | (unfold bigLen; omega) | exact ⟨_, _, ⟨rfl, rfl⟩, rfl⟩ | exact ⟨_, rfl⟩ | (rename_i hy; simp only [List.mem_singleton] at hy; subst hy; rfl) | with_reducible rfl | skip
end Go.Rad
