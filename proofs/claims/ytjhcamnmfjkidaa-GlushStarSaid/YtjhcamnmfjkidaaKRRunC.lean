/- A call on known things, reckoned: the contract. -/
import Derived.Test.YtjhcamnmfjkidaaKRRun
import Derived.Test.YtjhcamnmfjkidaaKRNode
import Derived.Test.YtjhcamnmfjkidaaKRGlob
import Derived.Test.YtjhcamnmfjkidaaKP09l
import Derived.Test.YtjhcamnmfjkidaaKP09r
import Derived.Test.YtjhcamnmfjkidaaKRNorm
set_option linter.all false
namespace Go.Rad
open Go
variable {P : Program} {L : Lay}
theorem quiet_ok : Quiet P := fun f args v sto h1 h2 h3 h4 => ACall.alone (ACall.none h4) (map_self fun x hx => tr_flat (List.all_eq_true.1 h1 x hx)) (bk_flat h2) h3
/-- Rows that a result holds are given away. -/
def finCells : AVal → List AVal
  | .tup vs => vs
  | v => [v]
def xFin : Nat → AVal → Sto → Option AVal
  | 0, v, _ => some v
  | k + 1, v, s =>
    match firstOsl (finCells v) with
    | none => some v
    | some id =>
      match sget s id with
      | some (g, .row _ l) => req (okFs id g l.length v && okFS id g l.length (sdel s id)) (xFin k (rf id g l v) (rfS id g l (sdel s id)))
      | _ => none
theorem fin_post {E : Gh} {R : AVal → Prop} {e : Ending} {w' : World} {r : Nat → Nat} : ∀ (k : Nat) {v v' : AVal} {s : Sto}, xFin k v s = some v' → R (mg r v') → Post E (fun v1 s1 => v1 = mg r v ∧ s1 = mgS r s) e w' → Post E (fun v1 _ => R v1) e w'
  | 0, v, v', s, h, hR, hp => by
    simp only [xFin, Option.some.injEq] at h; subst h
    exact hp.mono (.refl E) fun _ _ hx => by rw [hx.1]; exact hR
  | k + 1, v, v', s, h, hR, ⟨G', cr, r1, s1, h1, h2, h3, h4, h5, h6, h7⟩ => by
    simp only [xFin] at h
    split at h
    · cases h; exact ⟨G', cr, r1, s1, h1, h2, h3, h4, h5, by rw [h6]; exact hR⟩
    · split at h
      · rename_i g esz l hg
        simp only [req_iff, Bool.and_eq_true] at h
        obtain ⟨⟨hk1, hk2⟩, h⟩ := h
        subst h6 h7
        obtain ⟨G2, q1, q2, q3, q4⟩ := all_freeze (g := r g) (esz := esz) (l := l) h3 h4 (by rw [sget_mgS, hg]; rfl)
        refine fin_post k h hR ⟨G2, cr, _, _, h1, h2.trans q1, q2, q3, q4 _ _ h5, rf_mg hk1, ?_⟩
        rw [← sdel_mgS, ← rfS_mg _ hk2]
      · cases h
def rowIds : Sto → List Nat
  | [] => []
  | (i, _, .row _ _) :: s => i :: rowIds s
  | _ :: s => rowIds s
theorem sfilt_mg {r : Nat → Nat} {keep : List Nat} : ∀ s : Sto, mgS r (sfilt keep s) = sfilt keep (mgS r s)
  | [] => rfl
  | (i, g, o) :: s => by
    have ih := sfilt_mg (r := r) (keep := keep) s
    simp only [sf_cons, mgS]
    split
    · simp only [mgS, ih]
    · exact ih
/-- A closed call that is reckoned, and tells a thing that leads nowhere. -/
def ran (x : Option (AVal × Sto × Nat)) : Option AVal := x.bind fun x => (xFin 4 x.1 (sfilt (rowIds x.2.1) x.2.1)).bind fun v => req (flat v) (some v)
theorem run_c (hL : LOk P L) (hm : P.follows .mixedOrders = true) (hn : (P.funcs.all fun fn => !(fn.name == "runtime.NumGoroutine")) = true) (tab : Nat → Tab) {kn : Known1} (hkn : KnOk P kn) (fs : List Nat) (hfs : fs.all (fnOk P L tab) = true) (fuel k : Nat) {f : Nat} {args : List AVal} {v : AVal} (ha : args.all flat = true) (h : ran (xCall P L tab kn fuel fs k false f args [] 1000) = some v) :
    ACall P f args [] fun r s => r = v ∧ s = [] := by
  simp only [ran, Option.bind_eq_some_iff, req_iff, Option.some.injEq] at h
  obtain ⟨⟨u, s, n⟩, h1, u', h2, h3, rfl⟩ := h
  have h4 := (xCall_ok hL hm hn quiet_ok hkn hfs k false f args [] 1000 _ _ _ h1).2.2 id
  rw [map_self fun x hx => mg_id (flat_bd (List.all_eq_true.1 ha x hx))] at h4
  refine ACall.none ⟨h4.able, fun G w cargs a b c => (h4.calls G w cargs a b c).mono fun e w' p => ?_⟩
  obtain ⟨G', cr, r1, s1, x1, x2, x3, x4, x5, r', _, rfl, rfl⟩ := p
  exact fin_post (R := fun r => r = u') 4 h2 (mg_id (flat_bd h3)) ⟨G', cr, _, _, x1, x2, x3, sto_filt (rowIds s) x4, x5, rfl, (sfilt_mg s).symm⟩
end Go.Rad
/- What the run of closed calls must know of each function. -/
namespace Go.Rad
open Go
def rtabs : List Tab := [
  ⟨[], []⟩,
  ⟨[], []⟩,
  ⟨[], []⟩,
  ⟨[0, 2, 3, 4, 5, 6, 7, 8, 9, 10, 11, 12, 14, 16, 17, 19, 29, 31, 32, 33, 34, 45, 50, 51, 52, 53, 66, 67, 68, 69, 73, 74, 75, 76], []⟩,
  ⟨[0, 2, 3, 4, 5, 6, 7, 8, 9, 10, 11, 12, 14, 16, 18, 32, 42, 85, 87, 88, 89, 90, 101, 102, 103, 104, 111, 112, 113, 114, 118, 123, 124, 125, 126, 132, 167], []⟩,
  ⟨[0, 2, 3, 4, 5, 6, 7, 8, 9, 10, 11, 12, 13, 22, 24, 25, 26, 27, 75, 77, 78, 79, 80, 138], [(20, ⟨50, [0, 1, 2, 3, 4, 5, 6, 7, 8, 9, 10, 11, 12, 13, 14, 15, 16, 17, 18, 19, 20, 21, 22, 23, 24, 25, 26, 27, 28, 29, 30, 31, 32, 33, 34, 35, 36, 37, 38, 39, 40, 41, 42, 43, 44, 45, 46, 47, 48, 49], [95], [], [], []⟩)]⟩,
  ⟨[0, 1, 2, 5, 6, 7, 8, 9, 10, 11, 24], []⟩,
  ⟨[0, 1, 2, 3], [(1, ⟨10, [0, 1, 2, 3, 4, 5, 6, 7, 8, 9, 10, 11], [], [], [1], [4, 6, 8]⟩), (2, ⟨0, [0, 1, 2, 3, 4, 5, 6, 7, 8], [], [], [], []⟩)]⟩,
  ⟨[0, 1, 2, 3, 4], []⟩,
  ⟨[0, 2, 3, 4, 5, 6, 7, 8, 9, 19], []⟩,
  ⟨[0, 2, 3, 4, 5, 6, 7, 8, 10, 17, 19, 20, 21, 22, 34, 35, 36, 37, 49], []⟩,
  ⟨[0, 1, 2, 3, 4, 5, 6, 7, 22, 27, 80], []⟩,
  ⟨[0, 2, 3, 4, 7, 11, 36], []⟩,
  ⟨[0, 2, 3, 7, 15], []⟩,
  ⟨[0, 2, 3, 4, 9], [(5, ⟨6, [0, 1, 2, 3, 4, 5, 6], [], [], [], []⟩)]⟩,
  ⟨[0, 1, 2, 15], []⟩,
  ⟨[0, 1, 2, 3, 4, 17, 22, 69], []⟩,
  ⟨[0, 1, 4, 5, 8], []⟩,
  ⟨[0, 2], []⟩,
  ⟨[0, 1, 4], []⟩,
  ⟨[0, 2], []⟩,
  ⟨[0, 2, 4, 7, 8, 9, 10, 11, 42], []⟩,
  ⟨[0, 1, 2, 6, 7, 9, 10, 11, 12, 13, 15, 17, 21, 22, 23, 24, 34, 45, 46, 47, 48, 53, 54, 55, 56, 72, 80, 100, 104, 132, 154, 163, 164, 165, 166], [(23, ⟨17, [0, 1, 2, 3, 4, 5, 6, 7, 8, 9, 10, 11, 12, 13, 14, 15, 16, 17, 18, 19], [], [], [], []⟩), (34, ⟨11, [0, 1, 2, 3, 4, 5, 6, 7, 8, 9, 10, 11, 12, 13], [], [], [], []⟩), (15, ⟨10, [0, 1, 2, 3, 4, 5, 6, 7, 8, 9, 10, 11, 12], [], [], [], []⟩)]⟩,
  ⟨[0, 1, 4, 5], []⟩,
  ⟨[0, 1, 4, 5, 10, 14, 25], [(6, ⟨9, [0, 1, 2, 3, 4, 5, 6, 7, 8], [], [], [], []⟩)]⟩,
  ⟨[0, 1, 3, 4], []⟩,
  ⟨[0, 2, 3, 4, 5, 6, 14, 18, 26, 43, 47, 55], []⟩,
  ⟨[0, 1, 2, 4, 8], []⟩,
  ⟨[0, 1, 4, 5, 7, 8, 9, 10, 11, 21], []⟩,
  ⟨[0, 1, 4], []⟩,
  ⟨[0, 1, 2, 3], []⟩,
  ⟨[0, 1, 2, 4], []⟩,
  ⟨[0, 1, 4, 5, 9, 40], [(4, ⟨29, [0, 1, 2, 3, 4, 5, 6, 7, 8, 9, 10, 11, 12, 13, 14, 15, 16, 17, 18, 19, 20, 21, 22, 23, 24, 25, 26, 27, 28], [], [], [], []⟩)]⟩,
  ⟨[0, 2, 3, 4, 5, 8, 16, 27, 41], [(8, ⟨11, [0, 1, 2, 3, 4, 5, 6, 7, 8, 9, 10], [], [], [], []⟩)]⟩,
  ⟨[0, 1, 4, 5, 6, 17, 38], []⟩,
  ⟨[0, 1, 4, 5, 7, 8, 9, 16], []⟩,
  ⟨[0, 2, 4], []⟩,
  ⟨[0, 1, 2], []⟩,
  ⟨[0, 1, 3, 4, 5], [(2, ⟨7, [0, 1, 2, 3, 4, 5, 6, 7, 8, 9, 10], [18], [], [], []⟩)]⟩,
  ⟨[0, 1, 2, 7, 8, 9, 10, 11], [(3, ⟨14, [0, 1, 2, 3, 4, 5, 6, 7, 8, 9, 10, 11, 12, 13, 14, 15, 16, 17], [], [], [0], [16]⟩)]⟩,
  ⟨[0, 1, 2, 4, 5, 6, 7, 26, 34], []⟩,
  ⟨[0, 1, 2, 3, 4], [(1, ⟨14, [0, 1, 2, 3, 4, 5, 6, 7, 8, 9, 11, 12, 13, 14, 10, 15, 16, 17], [], [], [2, 3], [16, 18]⟩)]⟩,
  ⟨[0, 2, 3, 5, 6, 8, 9, 10, 11, 12, 20, 25, 26, 27, 28], []⟩,
  ⟨[0, 2], []⟩,
  ⟨[0, 2, 3, 4, 5, 8, 13, 25, 32, 44], [(6, ⟨10, [0, 1, 2, 3, 4, 5, 6, 7, 8, 9], [], [], [], []⟩), (11, ⟨10, [0, 1, 2, 3, 4, 5, 6, 7, 8, 9], [], [], [], []⟩)]⟩,
  ⟨[0, 1, 2, 3, 4, 5, 6, 23, 24, 42, 59, 78, 125], []⟩,
  ⟨[0, 1, 2, 6, 7, 8, 9, 10, 11, 16, 25, 42, 52], []⟩,
  ⟨[0, 1, 2, 4], []⟩,
  ⟨[0, 1, 4, 5, 7, 8, 9, 16], []⟩,
  ⟨[0, 2, 3, 21, 43], [(2, ⟨15, [0, 1, 2, 3, 4, 5, 6, 7, 8, 9, 10, 11, 12, 13, 14], [], [], [], []⟩)]⟩,
  ⟨[0, 2], [(1, ⟨18, [0, 1, 2, 3, 4, 5, 6, 7, 8, 9, 10, 11, 12, 13, 14, 15, 16, 17], [], [], [], []⟩)]⟩,
  ⟨[0, 1, 2, 10], []⟩,
  ⟨[0, 1, 4, 5, 6, 7, 18, 21, 29], []⟩,
  ⟨[0, 1, 4, 5, 6, 8, 10, 18, 23, 24, 25, 26, 45], [(7, ⟨8, [0, 1, 2, 3, 4, 5, 6, 7, 8], [], [], [], []⟩)]⟩,
  ⟨[0, 1, 4, 6, 16], []⟩,
  ⟨[0, 1, 2, 3, 8, 9, 10, 11, 12, 13, 14, 15, 16, 17, 18, 23, 29, 35, 50, 68, 72, 87, 113], [(17, ⟨12, [0, 1, 2, 3, 4, 5, 6, 7, 8, 9, 10, 11, 12, 13, 14], [], [], [], []⟩)]⟩,
  ⟨[0, 2], []⟩,
  ⟨[0, 2, 3, 7, 25], []⟩,
  ⟨[0, 2, 3, 30, 40, 43, 49], [(2, ⟨27, [0, 1, 2, 3, 4, 5, 6, 7, 8, 9, 10, 11, 12, 13, 14, 15, 16, 17, 18, 19, 20, 21, 22, 23, 24, 25, 26], [], [], [], []⟩)]⟩,
  ⟨[0, 1, 3, 4], [(1, ⟨7, [0, 1, 2, 3, 4, 5, 6, 7, 8, 9, 10], [11], [], [], []⟩)]⟩,
  ⟨[0, 1, 3, 4, 5, 6, 7, 8, 9, 10, 11, 12, 13, 36, 39, 58, 85, 116, 127, 138], [(3, ⟨10, [0, 1, 2, 3, 4, 5, 6, 7, 8, 9], [], [], [], []⟩), (12, ⟨20, [0, 1, 2, 3, 4, 5, 6, 7, 8, 9, 10, 11, 12, 13, 14, 15, 16, 17, 18, 19], [], [], [], []⟩)]⟩,
  ⟨[0, 1, 3, 4, 10], [(4, ⟨7, [0, 1, 2, 3, 4, 5, 6, 7, 8, 9, 10], [20], [], [], []⟩)]⟩,
  ⟨[0, 2, 3, 4, 5, 6, 14, 15, 16, 17, 18, 32, 45], [(10, ⟨7, [0, 1, 2, 3, 4, 5, 6], [], [], [], []⟩)]⟩,
  ⟨[0, 2, 3, 5, 7, 8, 9, 10, 28], []⟩,
  ⟨[0, 1, 4, 5, 6, 7, 8, 9, 13, 14, 15, 16, 22, 44], []⟩,
  ⟨[0, 1, 2, 6, 7, 12, 30], [(4, ⟨13, [0, 1, 2, 3, 4, 5, 6, 7, 8, 9, 10, 11, 12, 13, 14], [], [], [], []⟩), (6, ⟨15, [0, 1, 2, 3, 4, 5, 6, 7, 8, 9, 10, 11, 12, 13, 14, 15, 16, 17], [], [], [], []⟩)]⟩,
  ⟨[0, 1, 2, 6, 7, 8, 9, 10, 19, 30], [(10, ⟨17, [0, 1, 2, 3, 4, 5, 6, 7, 8, 9, 10, 11, 12, 13, 14, 15, 16, 17, 18, 19], [], [], [], []⟩)]⟩,
  ⟨[0, 1, 2, 6, 7, 8, 9, 10, 15, 33, 43], [(10, ⟨17, [0, 1, 2, 3, 4, 5, 6, 7, 8, 9, 10, 11, 12, 13, 14, 15, 16, 17, 18, 19], [], [], [], []⟩)]⟩,
  ⟨[0, 1, 2, 6, 7, 8, 9, 10, 11, 12, 32, 34, 49, 51, 54], []⟩,
  ⟨[0, 1, 2, 6, 7, 13], [(3, ⟨13, [0, 1, 2, 3, 4, 5, 6, 7, 8, 9, 10, 11, 12, 13, 14, 15], [], [], [], []⟩)]⟩,
  ⟨[0, 1, 2, 6, 7, 8, 9, 10, 14, 32, 37, 41, 61, 65, 78, 98, 103, 116], [(5, ⟨13, [0, 1, 2, 3, 4, 5, 6, 7, 8, 9, 10, 11, 12, 13, 14, 15], [], [], [], []⟩), (11, ⟨15, [0, 1, 2, 3, 4, 5, 6, 7, 8, 9, 10, 11, 12, 13, 14, 15, 16, 17], [], [], [], []⟩), (16, ⟨9, [0, 1, 2, 3, 4, 5, 6, 7, 8, 9, 10], [], [], [], []⟩), (17, ⟨15, [0, 1, 2, 3, 4, 5, 6, 7, 8, 9, 10, 11, 12, 13, 14, 15, 16, 17], [], [], [], []⟩), (22, ⟨9, [0, 1, 2, 3, 4, 5, 6, 7, 8, 9, 10], [], [], [], []⟩), (23, ⟨15, [0, 1, 2, 3, 4, 5, 6, 7, 8, 9, 10, 11, 12, 13, 14, 15, 16, 17], [], [], [], []⟩)]⟩,
  ⟨[0, 1, 4], []⟩,
  ⟨[0, 1, 2, 3, 8, 9, 10, 43, 59, 64], [(1, ⟨13, [0, 1, 2, 3, 4, 5, 6, 7, 8, 9, 10, 11, 12, 13, 14, 15], [], [], [], []⟩), (3, ⟨12, [0, 1, 2, 3, 4, 5, 6, 7, 8, 9, 10, 11, 12, 13, 14], [], [], [], []⟩), (5, ⟨12, [0, 1, 2, 3, 4, 5, 6, 7, 8, 9, 10, 11, 12, 13], [], [], [], []⟩), (8, ⟨13, [0, 1, 2, 3, 4, 5, 6, 7, 8, 9, 10, 11, 12, 13, 14, 15], [], [], [], []⟩)]⟩,
  ⟨[0, 1, 2, 3, 8, 9, 10, 11, 43, 60, 65, 112, 129, 134], [(1, ⟨13, [0, 1, 2, 3, 4, 5, 6, 7, 8, 9, 10, 11, 12, 13, 14, 15], [], [], [], []⟩), (3, ⟨12, [0, 1, 2, 3, 4, 5, 6, 7, 8, 9, 10, 11, 12, 13], [], [], [], []⟩), (5, ⟨12, [0, 1, 2, 3, 4, 5, 6, 7, 8, 9, 10, 11, 12, 13, 14], [], [], [], []⟩), (8, ⟨13, [0, 1, 2, 3, 4, 5, 6, 7, 8, 9, 10, 11, 12, 13, 14, 15], [], [], [], []⟩), (10, ⟨13, [0, 1, 2, 3, 4, 5, 6, 7, 8, 9, 10, 11, 12, 13, 14, 15], [], [], [], []⟩), (13, ⟨12, [0, 1, 2, 3, 4, 5, 6, 7, 8, 9, 10, 11, 12, 13], [], [], [], []⟩), (15, ⟨12, [0, 1, 2, 3, 4, 5, 6, 7, 8, 9, 10, 11, 12, 13, 14], [], [], [], []⟩), (18, ⟨13, [0, 1, 2, 3, 4, 5, 6, 7, 8, 9, 10, 11, 12, 13, 14, 15], [], [], [], []⟩), (21, ⟨13, [0, 1, 2, 3, 4, 5, 6, 7, 8, 9, 10, 11, 12, 13, 14, 15], [], [], [], []⟩)]⟩,
  ⟨[0, 2, 4, 8], []⟩,
  ⟨[0, 2, 4, 8, 14], []⟩,
  ⟨[0, 2], []⟩,
  ⟨[0, 2], []⟩,
  ⟨[0, 2, 3, 4, 5, 6, 11, 22, 32, 42, 52, 90], [(4, ⟨10, [0, 1, 2, 3, 4, 5, 6, 7, 8, 9], [], [], [], []⟩), (14, ⟨29, [0, 1, 2, 3, 4, 5, 6, 7, 8, 9, 10, 11, 12, 13, 14, 15, 16, 17, 18, 19, 20, 21, 22, 23, 24, 25, 26, 27, 28], [], [], [], []⟩)]⟩,
  ⟨[0, 1, 4, 5], []⟩,
  ⟨[0, 1, 2, 6, 7, 8, 9, 16, 28], []⟩,
  ⟨[0, 1, 4, 7], []⟩,
  ⟨[0, 1, 2, 3, 4, 12, 13, 21, 22, 55, 58, 62, 63, 71, 72], [(10, ⟨5, [0, 1, 2, 3, 4, 5, 6, 7], [], [], [1], [26]⟩)]⟩,
  ⟨[0, 1, 4, 5, 10, 12, 13, 14, 24], [(6, ⟨9, [0, 1, 2, 3, 4, 5, 6, 7, 8], [], [], [], []⟩)]⟩,
  ⟨[0, 2, 3, 5, 6, 7, 24], []⟩,
  ⟨[0, 1, 4, 5, 6, 7, 17, 20], []⟩,
  ⟨[0, 1, 2, 4, 6, 7, 8, 9, 15, 21, 22, 23, 24], [(7, ⟨8, [0, 1, 2, 3, 4, 5, 6, 7, 8], [], [], [], []⟩), (9, ⟨7, [0, 1, 2, 3, 4, 5, 6, 7, 8, 9, 10], [43], [], [], []⟩)]⟩,
  ⟨[0, 1, 2, 3, 8, 9, 16, 36, 52], [(3, ⟨18, [0, 1, 2, 3, 4, 5, 6, 7, 8, 9, 10, 11, 12, 13, 14, 15, 16, 17, 18, 19], [], [], [], []⟩), (5, ⟨12, [0, 1, 2, 3, 4, 5, 6, 7, 8, 9, 10, 11, 12, 13], [], [], [], []⟩), (6, ⟨21, [0, 1, 2, 3, 4, 5, 6, 7, 8, 9, 10, 11, 12, 13, 14, 15, 16, 17, 18, 19, 20, 21, 22, 23], [], [], [], []⟩)]⟩,
  ⟨[0, 2], []⟩,
  ⟨[0, 2], [(1, ⟨9, [0, 1, 2, 3, 4, 5, 6, 7, 8, 9], [], [], [], []⟩), (2, ⟨9, [0, 1, 2, 3, 4, 5, 6, 7, 8, 9], [], [], [], []⟩), (3, ⟨9, [0, 1, 2, 3, 4, 5, 6, 7, 8, 9], [], [], [], []⟩)]⟩,
  ⟨[0, 1, 2, 6], []⟩,
  ⟨[0, 1, 2, 3, 4, 10], []⟩,
  ⟨[0, 2], []⟩,
  ⟨[0, 2, 3, 4, 14, 19, 24, 40, 72, 85, 105], [(1, ⟨10, [0, 1, 2, 3, 4, 5, 6, 7, 8, 9], [], [], [], []⟩), (9, ⟨30, [0, 1, 2, 3, 4, 5, 6, 7, 8, 9, 10, 11, 12, 13, 14, 15, 16, 17, 18, 19, 20, 21, 22, 23, 24, 25, 26, 27, 28, 29], [], [], [], []⟩)]⟩,
  ⟨[0, 2, 3, 4, 5, 6, 35, 57, 61, 63, 80, 116], [(5, ⟨15, [0, 1, 2, 3, 4, 5, 6, 7, 8, 9, 10, 11, 12, 13, 14], [], [], [], []⟩), (8, ⟨15, [0, 1, 2, 3, 4, 5, 6, 7, 8, 9, 10, 11, 12, 13, 14], [], [], [], []⟩), (15, ⟨10, [0, 1, 2, 3, 4, 5, 6, 7, 8, 9], [], [], [], []⟩)]⟩,
  ⟨[0, 2], []⟩,
  ⟨[0, 2], []⟩,
  ⟨[0, 2, 4], []⟩,
  ⟨[0, 1, 2, 3, 8, 9, 18], [(1, ⟨8, [0, 1, 2, 3, 4, 5, 6, 7, 8], [], [], [], []⟩)]⟩,
  ⟨[0, 2, 3, 8, 39], []⟩,
  ⟨[0, 2, 3, 4, 5, 6, 7, 8, 31, 65, 83, 99, 113, 116, 121], [(2, ⟨16, [0, 1, 2, 3, 4, 5, 6, 7, 8, 9, 10, 11, 12, 13, 14, 15], [], [], [], []⟩), (6, ⟨26, [0, 1, 2, 3, 4, 5, 6, 7, 8, 9, 10, 11, 12, 13, 14, 15, 16, 17, 18, 19, 20, 21, 22, 23, 24, 25], [], [], [], []⟩), (9, ⟨15, [0, 1, 2, 3, 4, 5, 6, 7, 8, 9, 10, 11, 12, 13, 14], [], [], [], []⟩)]⟩,
  ⟨[0, 1, 2, 3, 4, 7, 14], []⟩,
  ⟨[0, 2, 3, 29, 38, 57], [(3, ⟨15, [0, 1, 2, 3, 4, 5, 6, 7, 8, 9, 10, 11, 12, 13, 14], [], [], [], []⟩), (8, ⟨12, [0, 1, 2, 3, 4, 5, 6, 7, 8, 9, 10, 11], [], [], [], []⟩), (12, ⟨13, [0, 1, 2, 3, 4, 5, 6, 7, 8, 9, 10, 11, 12, 13, 14], [], [], [], []⟩)]⟩,
  ⟨[0, 1, 4, 5, 9, 16], []⟩,
  ⟨[0], []⟩,
  ⟨[0, 2, 3, 4, 5, 6, 7, 29, 32, 56, 59, 62, 65, 78, 120, 126], [(1, ⟨10, [0, 1, 2, 3, 4, 5, 6, 7, 8, 9], [], [], [], []⟩), (9, ⟨10, [0, 1, 2, 3, 4, 5, 6, 7, 8, 9], [], [], [], []⟩), (18, ⟨11, [0, 1, 2, 3, 4, 5, 6, 7, 8, 9, 10], [], [], [], []⟩), (21, ⟨11, [0, 1, 2, 3, 4, 5, 6, 7, 8, 9, 10], [], [], [], []⟩), (22, ⟨12, [0, 1, 2, 3, 4, 5, 6, 7, 8, 9, 10, 11], [], [], [], []⟩)]⟩,
  ⟨[0, 2, 3, 4, 23, 70], [(3, ⟨15, [0, 1, 2, 3, 4, 5, 6, 7, 8, 9, 10, 11, 12, 13, 14], [], [], [], []⟩), (4, ⟨16, [0, 1, 2, 3, 4, 5, 6, 7, 8, 9, 10, 11, 12, 13, 14, 15], [], [], [], []⟩)]⟩,
  ⟨[0, 2, 4, 21], [(4, ⟨10, [0, 1, 2, 3, 4, 5, 6, 7, 8, 9], [], [], [], []⟩)]⟩,
  ⟨[0, 1, 4, 5, 6, 13], []⟩,
  ⟨[0, 2, 3, 4, 5, 8, 14, 23], []⟩,
  ⟨[0, 2, 4, 13], []⟩,
  ⟨[], []⟩,
  ⟨[], []⟩,
  ⟨[], []⟩,
  ⟨[], []⟩,
  ⟨[], []⟩,
  ⟨[], []⟩,
  ⟨[], []⟩,
  ⟨[], []⟩,
  ⟨[], []⟩,
  ⟨[], []⟩,
  ⟨[], []⟩,
  ⟨[], []⟩,
  ⟨[], []⟩,
  ⟨[], []⟩,
  ⟨[], []⟩,
  ⟨[], []⟩]
def rtab : Nat → Tab := fun f => rtabs.getD f ⟨[], []⟩
theorem no_num : (Go.Proofs.Try.prog.funcs.all fun fn => !(fn.name == "runtime.NumGoroutine")) = true := by decide +kernel
theorem kn_none : KnOk Go.Proofs.Try.prog (fun _ => none) := fun _ _ _ _ h => by cases h
theorem ran_c {kn : Known1} (hkn : KnOk Go.Proofs.Try.prog kn) (fs : List Nat) (hfs : fs.all (fnOk Go.Proofs.Try.prog LL rtab) = true) (fuel k : Nat) {f : Nat} {args : List AVal} {v : AVal} (ha : args.all flat = true) (h : ran (xCall Go.Proofs.Try.prog LL rtab kn fuel fs k false f args [] 1000) = some v) : ACall Go.Proofs.Try.prog f args [] fun r s => r = v ∧ s = [] := run_c LL_ok mixed no_num rtab hkn fs hfs fuel k ha h
end Go.Rad
/- What is known of some calls by their contracts, for the run of closed calls. -/
namespace Go.Rad
open Go Go.Proofs
def kIn : List AVal → Option AVal
  | [.int .u8 c, .str l] => req (decide (0 ≤ c) && Nat.ble l.size 1000000) (some (.bool (inS c.toNat l)))
  | _ => none
def decB : List (List AVal) → Option (List Nat)
  | [] => some []
  | [.int .u8 n] :: l => req (decide (0 ≤ n) && decide (n ≤ 255)) ((decB l).map (n.toNat :: ·))
  | _ => none
theorem decB_ok : ∀ {l : List (List AVal)} {bs : List Nat}, decB l = some bs → l = bytesL bs ∧ ∀ x ∈ bs, x ≤ 255
  | [], bs, h => by cases h; exact ⟨rfl, fun _ h => by cases h⟩
  | x :: l, bs, h => by
    unfold decB at h
    split at h
    · rename_i h1; cases h1
    · rename_i n l' h1
      cases h1
      simp only [req_iff, Bool.and_eq_true, decide_eq_true_eq] at h
      obtain ⟨⟨h1, h2⟩, h⟩ := h
      obtain ⟨bs', h3, rfl⟩ := mp_some h
      obtain ⟨h4, h5⟩ := decB_ok h3
      refine ⟨?_, fun x hx => ?_⟩
      · rw [h4]; simp only [bytesL, List.map_cons]; rw [Int.toNat_of_nonneg h1]
      · rcases List.mem_cons.1 hx with rfl | hx
        · omega
        · exact h5 x hx
    · cases h
def decS : List (List AVal) → Option (List ISet)
  | [] => some []
  | [.int .u64 a, .int .u64 b, .int .u64 c, .int .u64 d] :: l => (decS l).map (⟨a, b, c, d⟩ :: ·)
  | _ => none
theorem decS_ok : ∀ {l : List (List AVal)} {ss : List ISet}, decS l = some ss → l = sets ss
  | [], bs, h => by cases h; rfl
  | x :: l, bs, h => by
    unfold decS at h
    split at h
    · rename_i h1; cases h1
    · rename_i a b c d l' h1
      cases h1
      obtain ⟨bs', h3, rfl⟩ := mp_some h
      rw [decS_ok h3]; rfl
    · cases h
def kOf : List AVal → Option AVal
  | [.sl _ _ l] => (decB l).bind fun bs => req (Nat.ble bs.length 1000000) (some (.agg (bs.foldl withI ISet.none).cells))
  | _ => none
def kRange : List AVal → Option AVal
  | [.int .u8 lo, .int .u8 hi] => req (decide (0 ≤ lo) && decide (lo ≤ 255) && decide (0 ≤ hi) && decide (hi ≤ 255)) (some (.agg (rangeI lo.toNat hi.toNat).cells))
  | _ => none
def kOr : List AVal → Option AVal
  | [.sl _ _ l] => (decS l).bind fun ss => req (Nat.ble ss.length 1000000) (some (.agg (orI ss).cells))
  | _ => none
def kNot : List AVal → Option AVal
  | [.agg [.int .u64 a, .int .u64 b, .int .u64 c, .int .u64 d]] => some (.agg (notI ⟨a, b, c, d⟩).cells)
  | _ => none
def kName : List AVal → Option AVal
  | [.str s] => req (Nat.ble s.size maxLen) (some (.bool (nameOk s)))
  | _ => none
/-- One function's calls, and what else is known. -/
def kAdd (f0 : Nat) (g : List AVal → Option AVal) (kn : Known1) : Known1 := fun f => match Nat.beq f f0 with | true => some g | false => kn f
theorem kAdd_ok {f0 : Nat} {g : List AVal → Option AVal} {kn : Known1} (h : ∀ args v, g args = some v → ACall Try.prog f0 args [] fun r s => r = v ∧ s = []) (hk : KnOk Try.prog kn) : KnOk Try.prog (kAdd f0 g kn) := by
  intro f g' args v hg hv
  unfold kAdd at hg
  split at hg
  · rename_i e; cases hg; rw [Nat.eq_of_beq_eq_true e]; exact h args v hv
  · exact hk f g' args v hg hv
def kn4 : Known1 := kAdd 103 kIn (kAdd 14 kOf (kAdd 108 kRange (kAdd 109 kOr (kAdd 101 kNot (kAdd 57 kName fun _ => none)))))
theorem kn4uok : KnOk Try.prog kn4 := by
  refine kAdd_ok (fun args v h => ?_) (kAdd_ok (fun args v h => ?_) (kAdd_ok (fun args v h => ?_) (kAdd_ok (fun args v h => ?_) (kAdd_ok (fun args v h => ?_) (kAdd_ok (fun args v h => ?_) kn_none)))))
  · unfold kIn at h
    split at h
    · rename_i c l
      simp only [req_iff, Bool.and_eq_true, decide_eq_true_eq, Nat.ble_eq, Option.some.injEq] at h
      obtain ⟨⟨h1, h2⟩, rfl⟩ := h
      have := in4uc c.toNat l h2
      rwa [Int.toNat_of_nonneg h1] at this
    · cases h
  · unfold kOf at h
    split at h
    · simp only [Option.bind_eq_some_iff, req_iff, Nat.ble_eq, Option.some.injEq] at h
      obtain ⟨bs, h1, h2, rfl⟩ := h
      obtain ⟨rfl, h3⟩ := decB_ok h1
      exact of_c _ _ bs h3 h2
    · cases h
  · unfold kRange at h
    split at h
    · rename_i lo hi
      simp only [req_iff, Bool.and_eq_true, decide_eq_true_eq, Option.some.injEq] at h
      obtain ⟨⟨⟨⟨h1, h2⟩, h3⟩, h4⟩, rfl⟩ := h
      have := range_c lo.toNat hi.toNat (by omega) (by omega)
      rwa [Int.toNat_of_nonneg h1, Int.toNat_of_nonneg h3] at this
    · cases h
  · unfold kOr at h
    split at h
    · simp only [Option.bind_eq_some_iff, req_iff, Nat.ble_eq, Option.some.injEq] at h
      obtain ⟨ss, h1, h2, rfl⟩ := h
      rw [decS_ok h1]
      exact or_c _ _ ss h2
    · cases h
  · unfold kNot at h
    split at h
    · cases h; exact not_c _ _ _ _
    · cases h
  · unfold kName at h
    split at h
    · simp only [req_iff, Nat.ble_eq, Option.some.injEq] at h
      obtain ⟨h1, rfl⟩ := h
      exact name4uc _ h1
    · cases h
/-- The reader of the document. -/
def fsR : List Nat := [33, 49, 50, 51, 58, 59, 78, 93, 94, 99, 100, 102, 105, 106, 107, 104, 77, 110]
theorem fsR_ok : fsR.all (fnOk Try.prog LL rtab) = true := by decide +kernel
theorem parse_run {s : ByteArray} {v : AVal} (h : ran (xCall Try.prog LL rtab kn4 10000 fsR 60 false 33 [.str s] [] 1000) = some v) : ACall Try.prog 33 [.str s] [] fun r s => r = v ∧ s = [] := ran_c kn4uok fsR fsR_ok _ _ rfl h
end Go.Rad
/- What a call tells, said otherwise: an own row that it tells is given away. -/
namespace Go.Rad
open Go
theorem ACall.post {P : Program} {f : Nat} {args : List AVal} {sto : Sto} {R R' : AVal → Sto → Prop} (h : ACall P f args sto R)
    (hp : ∀ (G : Gh) (w : World) (r : AVal) (s : Sto) (v : Value), WOk G w → StoOk G w s → Rep G true r v → R r s → ∃ G' r' s', Ext G G' ∧ WOk G' w ∧ StoOk G' w s' ∧ Rep G' true r' v ∧ R' r' s') : ACall P f args sto R' := by
  refine ⟨h.able, fun G w cargs a b c => (h.calls G w cargs a b c).mono fun _ _ p => ?_⟩
  obtain ⟨G', cr, r, sto', a, b, c, d, e', f⟩ := p
  obtain ⟨G2, r2, s2, x1, x2, x3, x4, x5⟩ := hp _ _ _ _ _ c d e' f
  exact ⟨G2, cr, r2, s2, a, b.trans x1, x2, x3, x4, x5⟩
theorem ACall.frzRes {P : Program} {f : Nat} {args : List AVal} {sto : Sto} {R R' : AVal → Sto → Prop} (h : ACall P f args sto R)
    (hp : ∀ r s, R r s → (∃ id g esz l, r = .osl id g 0 l.length ∧ sget s id = some (g, .row esz l) ∧ R' (.sl true false l) (sdel s id)) ∨ (∃ q full l, r = .sl q full l ∧ R' (.sl q false l) s) ∨ R' r s) : ACall P f args sto R' := by
  refine h.post fun G w r s v hw hs hr hR => ?_
  rcases hp r s hR with ⟨id, g, esz, l, rfl, hg, h'⟩ | ⟨q, full, l, rfl, h'⟩ | h'
  · obtain ⟨G', hext, hw', hs', hR⟩ := sto_freeze hw hs hg
    have := hR 0 l.length v (by omega) hr
    simp only [List.drop_zero, List.take_length] at this
    exact ⟨G', _, _, hext, hw', hs', this, h'⟩
  · refine ⟨G, _, s, .refl G, hw, hs, ?_, h'⟩
    cases hr with
    | slnil => exact .slnil (fun h => by cases h)
    | sl a _ b c d e f g h => exact .sl a (fun h => by cases h) b c d e f g h
  · exact ⟨G, r, s, .refl G, hw, hs, hr, h'⟩
/-- The numbers within an argument that is a list are what their kinds hold. -/
theorem ACall.fitSl {P : Program} {f : Nat} {args : List AVal} {sto : Sto} {R : AVal → Sto → Prop} (i : Nat) {q full : Bool} {l : List (List AVal)} (able : Callable P f) (hi : args[i]? = some (.sl q full l))
    (h : (∀ (m j : Nat) (x : List AVal) (k : IntKind) (n : Int), l[m]? = some x → x[j]? = some (.int k n) → fits k n) → ACall P f args sto R) : ACall P f args sto R := by
  refine ⟨able, fun G w cargs hw hs ha => ?_⟩
  have hr := ha.2 i _ hi
  generalize cargs.getD i undef = v at hr
  refine (h fun m j x k n hm hj => ?_).calls G w cargs hw hs ha
  cases hr with
  | slnil => simp at hm
  | sl _ _ _ _ _ _ _ _ hc =>
    have := hc m j x _ hm hj
    revert this
    generalize Array.getD _ _ undef = u
    intro this
    cases this with
    | int hf => exact hf
end Go.Rad
/- The head of the statements of layer 9. -/
namespace Go.Rad
open Go Go.Proofs
set_option linter.all false
set_option maxRecDepth 20000
set_option maxHeartbeats 4000000

/-- A pair of lists and a number, the lists' flags forgotten. -/
theorem rep_pair {G : Gh} {o : Bool} {b1 b2 : Bool} {x y : List (List AVal)} {e : AVal} {v : Value} (h : Rep G o (.tup [.agg [.sl true b1 x, .sl true b2 y], e]) v) : Rep G o (.tup [.agg [.sl true false x, .sl true false y], e]) v := by
  cases h with
  | tup a c =>
    refine .tup a fun j z hz => ?_
    match j, hz with
    | 0, hz =>
      simp only [List.getElem?_cons_zero, Option.some.injEq] at hz
      subst hz
      have h0 := c 0 _ rfl
      generalize Array.getD _ 0 undef = u at h0
      cases h0 with
      | agg a2 b2 c2 =>
        refine .agg a2 ?_ ?_
        · intro j x hx
          match j, hx with
          | 0, hx => simp only [List.getElem?_cons_zero, Option.some.injEq] at hx; subst hx; rfl
          | 1, hx => simp only [List.getElem?_cons_succ, List.getElem?_cons_zero, Option.some.injEq] at hx; subst hx; rfl
        · intro j x hx
          match j, hx with
          | 0, hx => simp only [List.getElem?_cons_zero, Option.some.injEq] at hx; subst hx; exact rep_unfull (c2 0 _ rfl)
          | 1, hx => simp only [List.getElem?_cons_succ, List.getElem?_cons_zero, Option.some.injEq] at hx; subst hx; exact rep_unfull (c2 1 _ rfl)
    | 1, hz => exact c 1 _ hz
theorem of9F_c (f : Bool) (ls : List (List Node)) (hll : ls.length ≤ 1000000) (hnd : ∀ x ∈ ls, ndOk x) :
    ACall Try.prog 10 [.sl true f (trees ls)] [] fun r s => r = .tup [.agg [.sl true false (ints (ofG ls).1), .sl true false (poss (ofG ls).2.1)], .int .i64 (ofG ls).2.2] ∧ s = [] := by
  refine (of9uc f ls hll hnd).post fun G w r s v hw hs hr hR => ?_
  obtain ⟨⟨b1, b2, rfl⟩, rfl⟩ := hR
  exact ⟨G, _, _, .refl G, hw, hs, rep_pair hr, rfl, rfl⟩
abbrev byte9 (b : Int) : Node := ⟨2, ⟨0, b, 0, 0⟩, [], 0, 0, ByteArray.empty⟩
abbrev t9a : List Node := [byte9 8589934592, byte9 17179869184, ⟨5, ISet.none, [1], 0, -1, ByteArray.empty⟩, ⟨3, ISet.none, [0, 2], 0, 0, ByteArray.empty⟩]
abbrev t9b : List Node := [byte9 34359738368, ⟨5, ISet.none, [0], 2, 9, ByteArray.empty⟩]
theorem p9a : ACall Try.prog 33 [.str ⟨#[97, 98, 42]⟩] [] fun r s => r = .tup [.sl true false (nodes t9a), .int .i64 0, .int .i64 0] ∧ s = [] := parse_run (by kernel_rfl)
theorem p9b : ACall Try.prog 33 [.str ⟨#[99, 123, 50, 44, 57, 125]⟩] [] fun r s => r = .tup [.sl true false (nodes t9b), .int .i64 0, .int .i64 0] ∧ s = [] := parse_run (by kernel_rfl)
theorem r9a : ref8S t9a 3 = (t9a, 0) := by decide +kernel
theorem r9b : ref8S t9b 3 = (t9b, 0) := by decide +kernel
theorem of9a : ACall Try.prog 17 [.str ⟨#[97, 98, 42]⟩, .int .i64 3] [] fun r s => r = .sl true false (nodes t9a) ∧ s = [] := by
  have h := rtree_c false t9a 3 (by decide) (by decide +kernel) (fun h1 h2 h3 => planR_nd h1 h2 h3)
  rw [r9a] at h
  simp only [flS_0] at h
  have hp := p9a
  generalize nodes t9a = A at h hp ⊢
  refine ACall.enter Try.func17 rfl (by kernel_rfl) (Nat.le_of_ble_eq_true rfl) ?_; simp only [initTm, Nat.reduceAdd]
  repeat' (first
  | refine gSq ?_ | refine gSk ?_ | refine gBl ?_ | refine gIb ?_ | refine gEx rfl ?_
  | ((first
  | (refine gRg [] [0, 1, 4, 5, 8] ?_; intro K hK)
  | refine cAl (hp) rfl rfl rfl ?_
  | refine cAl (h) rfl rfl rfl ?_
  | (refine gd_split ?_ ?_ <;> intro hb <;> (try simp only [bls] at hb) <;> (try simp only [hb]))
  | refine gRt [] [.tmp 4] rfl ?_ | refine gDn [] [.tmp 4] rfl ?_) <;> (try simp only [go_sem, simprocAttr]))
  | (refine hK _ _ ?_; clear hK K; simp only [go_sem, simprocAttr])
  | refine gCd (by simp only [go_sem, simprocAttr]; rfl) rfl ?_
  | refine brT ?_ | refine brF ?_
  | (refine brS ?_ ?_ <;> intro hc <;> (try simp only [bls] at hc) <;> (try simp only [hc, bls]))
  | intro _ | refine And.intro ?_ ?_)
  all_goals first | omega | (unfold bigLen; omega) | exact ⟨_, _, ⟨rfl, rfl⟩, rfl⟩ | exact ⟨_, rfl⟩ | (rename_i hy; simp only [List.mem_singleton] at hy; subst hy; rfl) | with_reducible rfl | skip
theorem of9b : ACall Try.prog 17 [.str ⟨#[99, 123, 50, 44, 57, 125]⟩, .int .i64 3] [] fun r s => r = .sl true false (nodes t9b) ∧ s = [] := by
  have h := rtree_c false t9b 3 (by decide) (by decide +kernel) (fun h1 h2 h3 => planR_nd h1 h2 h3)
  rw [r9b] at h
  simp only [flS_0] at h
  have hp := p9b
  generalize nodes t9b = A at h hp ⊢
  refine ACall.enter Try.func17 rfl (by kernel_rfl) (Nat.le_of_ble_eq_true rfl) ?_; simp only [initTm, Nat.reduceAdd]
  repeat' (first
  | refine gSq ?_ | refine gSk ?_ | refine gBl ?_ | refine gIb ?_ | refine gEx rfl ?_
  | ((first
  | (refine gRg [] [0, 1, 4, 5, 8] ?_; intro K hK)
  | refine cAl (hp) rfl rfl rfl ?_
  | refine cAl (h) rfl rfl rfl ?_
  | (refine gd_split ?_ ?_ <;> intro hb <;> (try simp only [bls] at hb) <;> (try simp only [hb]))
  | refine gRt [] [.tmp 4] rfl ?_ | refine gDn [] [.tmp 4] rfl ?_) <;> (try simp only [go_sem, simprocAttr]))
  | (refine hK _ _ ?_; clear hK K; simp only [go_sem, simprocAttr])
  | refine gCd (by simp only [go_sem, simprocAttr]; rfl) rfl ?_
  | refine brT ?_ | refine brF ?_
  | (refine brS ?_ ?_ <;> intro hc <;> (try simp only [bls] at hc) <;> (try simp only [hc, bls]))
  | intro _ | refine And.intro ?_ ?_)
  all_goals first | omega | (unfold bigLen; omega) | exact ⟨_, _, ⟨rfl, rfl⟩, rfl⟩ | exact ⟨_, rfl⟩ | (rename_i hy; simp only [List.mem_singleton] at hy; subst hy; rfl) | with_reducible rfl | skip
abbrev w9 : List Po := [⟨⟨0, 8589934592, 0, 0⟩, 1, 1, 0, true, [1]⟩, ⟨⟨0, 17179869184, 0, 0⟩, 1, 1, 0, true, [1]⟩, ⟨⟨0, 34359738368, 0, 0⟩, 2, 9, 1, true, []⟩]
theorem g9 : ofG [t9a, t9b] = ([0, 2], w9, 0) := by kernel_rfl
theorem same9uc (q f q' f' : Bool) (a : List Int) (ha : a.length ≤ 100000000) : ACall Try.prog 24 [.sl q f (ints a), .sl q' f' (ints a)] [] fun r s => r = .bool true ∧ s = [] := by
  refine ACall.enter Try.func24 rfl (by kernel_rfl) (Nat.le_of_ble_eq_true rfl) ?_; simp only [initTm, Nat.reduceAdd]
  repeat' (first
  | refine gSq ?_ | refine gSk ?_ | refine gBl ?_ | refine gIb ?_ | refine gEx rfl ?_
  | ((first
  | (refine gRg [] [0, 1, 4, 5, 10, 14, 25] ?_; intro K hK)
  | (refine gDr 6 [] 9 [0, 1, 2, 3, 4, 5, 6, 7, 8] [0, 1, 4, 5, 10, 14, 25] rfl ?_; intro K hK)
  | (refine gd_split ?_ ?_ <;> intro hb <;> (try simp only [bls] at hb) <;> (try simp only [hb]))
  | refine gRt [] [.tmp 4] rfl ?_ | refine gDn [] [.tmp 4] rfl ?_) <;> (try simp only [go_sem, simprocAttr]))
  | (refine hK _ _ ?_; clear hK K; simp only [go_sem, simprocAttr])
  | refine gCd (by simp only [go_sem, simprocAttr]; rfl) rfl ?_
  | refine brT ?_ | refine brF ?_
  | (refine brS ?_ ?_ <;> intro hc <;> (try simp only [bls] at hc) <;> (try simp only [hc, bls]))
  | intro _ | refine And.intro ?_ ?_)
  all_goals first | omega | (unfold bigLen; omega) | exact ⟨_, _, ⟨rfl, rfl⟩, rfl⟩ | exact ⟨_, rfl⟩ | (rename_i hy; simp only [List.mem_singleton] at hy; subst hy; rfl) | with_reducible rfl | skip
  refine AGood.prune [0, 1, 4, 5] ?_; simp only [go_sem, simprocAttr]
  refine AGood.loopInv (α := Nat) (fun i => ([(0, .sl q f (ints a)), (1, .sl q' f' (ints a)), (4, .bool false), (5, .int .i64 i)], [])) (fun i => i ≤ a.length) (fun i => a.length - i) 0 (Nat.zero_le _) rfl ?_
  rintro i hi ih
  simp only at hi ih ⊢
  by_cases hle : i < a.length
  · have e4 : (i : Int) < a.length := by omega
    have e5 : (0 : Int) ≤ i := by omega
    have e6 : (i : Int) + 1 = ((i + 1 : Nat) : Int) := by omega
    obtain ⟨x, hx⟩ : ∃ x, a[i]? = some x := ⟨_, List.getElem?_eq_getElem hle⟩
    repeat' (first
  | refine gSq ?_ | refine gSk ?_ | refine gBl ?_ | refine gIb ?_ | refine gEx rfl ?_
  | ((first
  | (refine gRg [] [0, 1, 4, 5, 10, 14, 25] ?_; intro K hK)
  | (refine gDr 6 [] 9 [0, 1, 2, 3, 4, 5, 6, 7, 8] [0, 1, 4, 5, 10, 14, 25] rfl ?_; intro K hK)
  | (refine gd_split ?_ ?_ <;> intro hb <;> (try simp only [bls] at hb) <;> (try simp only [hb]))
  | refine gRt [] [.tmp 4] rfl ?_ | refine gDn [] [.tmp 4] rfl ?_) <;> (try simp only [go_sem, simprocAttr, e4, e5, e6, hx, eq_self, Option.some.injEq, forall_eq']))
  | (refine hK _ _ ?_; clear hK K; simp only [go_sem, simprocAttr])
  | refine gCd (by simp only [go_sem, simprocAttr]; rfl) rfl ?_
  | refine brT ?_ | refine brF ?_
  | (refine brS ?_ ?_ <;> intro hc <;> (try simp only [bls] at hc) <;> (try simp only [hc, bls]))
  | intro _ | refine And.intro ?_ ?_)
    all_goals first | omega | (unfold bigLen; omega) | exact ⟨_, _, ⟨rfl, rfl⟩, rfl⟩ | exact ⟨_, rfl⟩ | (rename_i hy; simp only [List.mem_singleton] at hy; subst hy; rfl) | with_reducible rfl | skip
    refine AGood.prune [0, 1, 4, 5] ?_; simp only [go_sem, simprocAttr]
    exact (ih (i + 1) (by omega) (by omega)).cast rfl rfl
  · have e4 : ¬ (i : Int) < a.length := by omega
    clear ih
    repeat' (first
  | refine gSq ?_ | refine gSk ?_ | refine gBl ?_ | refine gIb ?_ | refine gEx rfl ?_
  | ((first
  | (refine gRg [] [0, 1, 4, 5, 10, 14, 25] ?_; intro K hK)
  | (refine gDr 6 [] 9 [0, 1, 2, 3, 4, 5, 6, 7, 8] [0, 1, 4, 5, 10, 14, 25] rfl ?_; intro K hK)
  | (refine gd_split ?_ ?_ <;> intro hb <;> (try simp only [bls] at hb) <;> (try simp only [hb]))
  | refine gRt [] [.tmp 4] rfl ?_ | refine gDn [] [.tmp 4] rfl ?_) <;> (try simp only [go_sem, simprocAttr, e4]))
  | (refine hK _ _ ?_; clear hK K; simp only [go_sem, simprocAttr])
  | refine gCd (by simp only [go_sem, simprocAttr]; rfl) rfl ?_
  | refine brT ?_ | refine brF ?_
  | (refine brS ?_ ?_ <;> intro hc <;> (try simp only [bls] at hc) <;> (try simp only [hc, bls]))
  | intro _ | refine And.intro ?_ ?_)
    all_goals first | omega | (unfold bigLen; omega) | exact ⟨_, _, ⟨rfl, rfl⟩, rfl⟩ | exact ⟨_, rfl⟩ | (rename_i hy; simp only [List.mem_singleton] at hy; subst hy; rfl) | with_reducible rfl | skip
theorem Same9uc (b1 b2 b3 b4 : Bool) (fi : List Int) (ps : List Po) (hf : fi.length ≤ 100000000) (hp : ps.length ≤ 1000000) (hn : ∀ p ∈ ps, p.next.length ≤ 100000000) :
    ACall Try.prog 11 [.agg [.sl true b1 (ints fi), .sl true b2 (poss ps)], .agg [.sl true b3 (ints fi), .sl true b4 (poss ps)]] [] fun r s => r = .bool true ∧ s = [] := by
  have hs := same9uc true b1 true b3 fi hf
  refine ACall.enter Try.func11 rfl (by kernel_rfl) (Nat.le_of_ble_eq_true rfl) ?_; simp only [initTm, Nat.reduceAdd]
  repeat' (first
  | refine gSq ?_ | refine gSk ?_ | refine gBl ?_ | refine gIb ?_ | refine gEx rfl ?_
  | ((first
  | (refine gRg [] [0, 1, 2, 3, 4, 5, 6, 7, 22, 27, 80] ?_; intro K hK)
  | refine cAl (hs) rfl rfl rfl ?_
  | (refine gd_split ?_ ?_ <;> intro hb <;> (try simp only [bls] at hb) <;> (try simp only [hb]))
  | refine gRt [] [.tmp 4] rfl ?_ | refine gDn [] [.tmp 4] rfl ?_) <;> (try simp only [go_sem, simprocAttr]))
  | (refine hK _ _ ?_; clear hK K; simp only [go_sem, simprocAttr])
  | refine gCd (by simp only [go_sem, simprocAttr]; rfl) rfl ?_
  | refine brT ?_ | refine brF ?_
  | (refine brS ?_ ?_ <;> intro hc <;> (try simp only [bls] at hc) <;> (try simp only [hc, bls]))
  | intro _ | refine And.intro ?_ ?_)
  all_goals first | omega | (unfold bigLen; omega) | exact ⟨_, _, ⟨rfl, rfl⟩, rfl⟩ | exact ⟨_, rfl⟩ | (rename_i hy; simp only [List.mem_singleton] at hy; subst hy; rfl) | with_reducible rfl | skip
  rename_i h2 h3
  refine AGood.prune [2, 3, 4, 5] ?_; simp only [go_sem, simprocAttr]
  refine AGood.loopInv (α := Nat) (fun i => ([(2, .bx 2 h2 0), (3, .bx 3 h3 0), (4, .bool false), (5, .int .i64 i)], [(2, h2, .box [.sl true b1 (ints fi), .sl true b2 (poss ps)]), (3, h3, .box [.sl true b3 (ints fi), .sl true b4 (poss ps)])])) (fun i => i ≤ ps.length) (fun i => ps.length - i) 0 (Nat.zero_le _) rfl ?_
  rintro i hi ih
  simp only at hi ih ⊢
  by_cases hle : i < ps.length
  · have e4 : (i : Int) < ps.length := by omega
    have e5 : (0 : Int) ≤ i := by omega
    have e6 : (i : Int) + 1 = ((i + 1 : Nat) : Int) := by omega
    obtain ⟨p, hx⟩ : ∃ x, ps[i]? = some x := ⟨_, List.getElem?_eq_getElem hle⟩
    have hpn := hn p (List.mem_of_getElem? hx)
    have hsn := same9uc true false true false p.next hpn
    obtain ⟨⟨sa, sb, sc, sd⟩, lo, hi', rule, last, next⟩ := p
    simp only at hsn
    cases last
    · repeat' (first
  | refine gSq ?_ | refine gSk ?_ | refine gBl ?_ | refine gIb ?_ | refine gEx rfl ?_
  | ((first
  | (refine gRg [] [0, 1, 2, 3, 4, 5, 6, 7, 22, 27, 80] ?_; intro K hK)
  | refine cAl (hsn) rfl rfl rfl ?_
  | (refine gd_split ?_ ?_ <;> intro hb <;> (try simp only [bls] at hb) <;> (try simp only [hb]))
  | refine gRt [] [.tmp 4] rfl ?_ | refine gDn [] [.tmp 4] rfl ?_) <;> (try simp only [go_sem, simprocAttr, e4, e5, e6, hx, eq_self, beq_self_eq_true, Option.some.injEq, forall_eq']))
  | (refine hK _ _ ?_; clear hK K; simp only [go_sem, simprocAttr])
  | refine gCd (by simp only [go_sem, simprocAttr]; rfl) rfl ?_
  | refine brT ?_ | refine brF ?_
  | (refine brS ?_ ?_ <;> intro hc <;> (try simp only [bls] at hc) <;> (try simp only [hc, bls]))
  | intro _ | refine And.intro ?_ ?_)
      all_goals first | omega | (unfold bigLen; omega) | exact ⟨_, _, ⟨rfl, rfl⟩, rfl⟩ | exact ⟨_, rfl⟩ | (rename_i hy; simp only [List.mem_singleton] at hy; subst hy; rfl) | with_reducible rfl | skip
      refine AGood.filt [2, 3] ?_
      simp only [sf_cons, sf_nil, go_sem, simprocAttr]
      refine AGood.prune [2, 3, 4, 5] ?_; simp only [go_sem, simprocAttr]
      exact (ih (i + 1) (by omega) (by omega)).cast rfl rfl
    · repeat' (first
  | refine gSq ?_ | refine gSk ?_ | refine gBl ?_ | refine gIb ?_ | refine gEx rfl ?_
  | ((first
  | (refine gRg [] [0, 1, 2, 3, 4, 5, 6, 7, 22, 27, 80] ?_; intro K hK)
  | refine cAl (hsn) rfl rfl rfl ?_
  | (refine gd_split ?_ ?_ <;> intro hb <;> (try simp only [bls] at hb) <;> (try simp only [hb]))
  | refine gRt [] [.tmp 4] rfl ?_ | refine gDn [] [.tmp 4] rfl ?_) <;> (try simp only [go_sem, simprocAttr, e4, e5, e6, hx, eq_self, beq_self_eq_true, Option.some.injEq, forall_eq']))
  | (refine hK _ _ ?_; clear hK K; simp only [go_sem, simprocAttr])
  | refine gCd (by simp only [go_sem, simprocAttr]; rfl) rfl ?_
  | refine brT ?_ | refine brF ?_
  | (refine brS ?_ ?_ <;> intro hc <;> (try simp only [bls] at hc) <;> (try simp only [hc, bls]))
  | intro _ | refine And.intro ?_ ?_)
      all_goals first | omega | (unfold bigLen; omega) | exact ⟨_, _, ⟨rfl, rfl⟩, rfl⟩ | exact ⟨_, rfl⟩ | (rename_i hy; simp only [List.mem_singleton] at hy; subst hy; rfl) | with_reducible rfl | skip
      refine AGood.filt [2, 3] ?_
      simp only [sf_cons, sf_nil, go_sem, simprocAttr]
      refine AGood.prune [2, 3, 4, 5] ?_; simp only [go_sem, simprocAttr]
      exact (ih (i + 1) (by omega) (by omega)).cast rfl rfl
  · have e4 : ¬ (i : Int) < ps.length := by omega
    clear ih
    repeat' (first
  | refine gSq ?_ | refine gSk ?_ | refine gBl ?_ | refine gIb ?_ | refine gEx rfl ?_
  | ((first
  | (refine gRg [] [0, 1, 2, 3, 4, 5, 6, 7, 22, 27, 80] ?_; intro K hK)
  | (refine gd_split ?_ ?_ <;> intro hb <;> (try simp only [bls] at hb) <;> (try simp only [hb]))
  | refine gRt [] [.tmp 4] rfl ?_ | refine gDn [] [.tmp 4] rfl ?_) <;> (try simp only [go_sem, simprocAttr, e4]))
  | (refine hK _ _ ?_; clear hK K; simp only [go_sem, simprocAttr])
  | refine gCd (by simp only [go_sem, simprocAttr]; rfl) rfl ?_
  | refine brT ?_ | refine brF ?_
  | (refine brS ?_ ?_ <;> intro hc <;> (try simp only [bls] at hc) <;> (try simp only [hc, bls]))
  | intro _ | refine And.intro ?_ ?_)
    all_goals first | omega | (unfold bigLen; omega) | exact ⟨_, _, ⟨rfl, rfl⟩, rfl⟩ | exact ⟨_, rfl⟩ | (rename_i hy; simp only [List.mem_singleton] at hy; subst hy; rfl) | with_reducible rfl | skip
theorem set9uc (c : Nat) (hc : c ≤ 255) : ACall Try.prog 18 [.int .u8 c] [] fun r s => r = .agg ([c].foldl withI ISet.none).cells ∧ s = [] := by
  have h := fun q f => of_c q f [c] (fun x hx => by simp at hx; omega) (by simp)
  simp only [bytesL, List.map_cons, List.map_nil] at h
  generalize [c].foldl withI ISet.none = S at h
  obtain ⟨sa, sb, sc, sd⟩ := S
  simp only [ISet.cells] at h ⊢
  refine ACall.enter Try.func18 rfl (by kernel_rfl) (Nat.le_of_ble_eq_true rfl) ?_; simp only [initTm, Nat.reduceAdd]
  repeat' (first
  | refine gSq ?_ | refine gSk ?_ | refine gBl ?_ | refine gIb ?_ | refine gEx rfl ?_
  | ((first
  | (refine gRg [4] [0, 2] ?_; intro K hK)
  | refine cAl (h _ _) rfl rfl rfl ?_
  | (refine gd_split ?_ ?_ <;> intro hb <;> (try simp only [bls] at hb) <;> (try simp only [hb]))
  | refine gRt [] [.cell 2 35] rfl ?_ | refine gDn [] [.cell 2 35] rfl ?_) <;> (try simp only [go_sem, simprocAttr]))
  | (refine hK _ _ ?_; clear hK K; simp only [go_sem, simprocAttr])
  | refine gCd (by simp only [go_sem, simprocAttr]; rfl) rfl ?_
  | refine brT ?_ | refine brF ?_
  | (refine brS ?_ ?_ <;> intro hc <;> (try simp only [bls] at hc) <;> (try simp only [hc, bls]))
  | intro _ | refine And.intro ?_ ?_)
  all_goals first | omega | (unfold bigLen; omega) | exact ⟨_, _, ⟨rfl, rfl⟩, rfl⟩ | exact ⟨_, rfl⟩ | (rename_i hy; simp only [List.mem_singleton] at hy; subst hy; rfl) | with_reducible rfl | skip
theorem u9a : [97].foldl withI ISet.none = ⟨0, 8589934592, 0, 0⟩ := by decide +kernel
theorem u9b : [98].foldl withI ISet.none = ⟨0, 17179869184, 0, 0⟩ := by decide +kernel
theorem u9c : [99].foldl withI ISet.none = ⟨0, 34359738368, 0, 0⟩ := by decide +kernel
theorem shown9uc : ACall Try.prog 8 [] [] fun r s => r = .bool true ∧ s = [] := by
  have hO : ∀ b, ACall _ _ [.sl true b [[.sl true false (nodes t9a)], [.sl true false (nodes t9b)]]] [] _ := fun b => of9F_c b [t9a, t9b] (by decide) (by unfold ndOk; decide +kernel)
  rw [g9] at hO
  have ha := of9a
  have hb := of9b
  have sA := set9uc 97 (by decide)
  have sB := set9uc 98 (by decide)
  have sC := set9uc 99 (by decide)
  rw [u9a] at sA
  rw [u9b] at sB
  rw [u9c] at sC
  have hS := fun b1 b2 b3 b4 => Same9uc b1 b2 b3 b4 [0, 2] w9 (by decide) (by decide) (by decide +kernel)
  generalize nodes t9a = A at ha hO
  generalize nodes t9b = B at hb hO
  simp only [List.map_cons, List.map_nil, ISet.cells, Int.cast_ofNat_Int] at hO sA sB sC hS
  refine ACall.enter Try.func8 rfl (by kernel_rfl) (Nat.le_of_ble_eq_true rfl) ?_; simp only [initTm, Nat.reduceAdd]
  repeat' (first
  | refine gSq ?_ | refine gSk ?_ | refine gBl ?_ | refine gIb ?_ | refine gEx rfl ?_
  | ((first
  | (refine gRg [8, 12, 15, 19, 24] [0, 1, 2, 3, 4] ?_; intro K hK)
  | refine cAl (ha) rfl rfl rfl ?_
  | refine cAl (hb) rfl rfl rfl ?_
  | refine cAl (sA) rfl rfl rfl ?_
  | refine cAl (sB) rfl rfl rfl ?_
  | refine cAl (sC) rfl rfl rfl ?_
  | refine cAl (hS _ _ _ _) rfl rfl rfl ?_
  | (refine ACall.mono (hO _) ?_; rintro _ _ ⟨rfl, rfl⟩)
  | (refine gd_split ?_ ?_ <;> intro hb <;> (try simp only [bls] at hb) <;> (try simp only [hb]))
  | refine gRt [] [.tmp 0] rfl ?_ | refine gDn [] [.tmp 0] rfl ?_) <;> (try simp only [go_sem, simprocAttr, AVal.isCell, Option.some.injEq, exists_eq_left', forall_eq']))
  | (refine hK _ _ ?_; clear hK K; simp only [go_sem, simprocAttr])
  | refine gCd (by simp only [go_sem, simprocAttr]; rfl) rfl ?_
  | refine brT ?_ | refine brF ?_
  | (refine brS ?_ ?_ <;> intro hc <;> (try simp only [bls] at hc) <;> (try simp only [hc, bls]))
  | intro _ | refine And.intro ?_ ?_)
  all_goals first | omega | (unfold bigLen; omega) | exact ⟨_, _, ⟨rfl, rfl⟩, rfl⟩ | exact ⟨_, rfl⟩ | (rename_i hy; simp only [List.mem_singleton] at hy; subst hy; rfl) | with_reducible rfl | skip
  all_goals trace_state
end Go.Rad
/- Places of plans behind others: shifted. -/
namespace Go.Rad
open Go Fo
abbrev shL (d : Nat) (l : List Int) : List Int := l.map fun x => x + (d : Int)
def shP (d : Nat) (r : Int) (p : Po) : Po := { p with next := shL d p.next, rule := r }
def shE (d : Nat) (e : En) : En := ⟨e.null, shL d e.first, shL d e.last⟩
theorem insD_sh (d x : Int) : ∀ l : List Int, insD (x + d) (l.map fun y => y + d) = (insD x l).map fun y => y + d
  | [] => rfl
  | y :: l => by
    simp only [List.map_cons, insD]
    by_cases h : x < y
    · rw [if_pos (by omega), if_pos h]; rfl
    · rw [if_neg (by omega), if_neg h]
      by_cases h2 : x = y
      · rw [if_pos (by omega), if_pos h2]; rfl
      · rw [if_neg (by omega), if_neg h2, insD_sh d x l]; rfl
theorem uni_sh0 (d : Int) : ∀ l : List Int, (l.map fun y => y + d).foldr insD [] = (l.foldr insD []).map fun y => y + d
  | [] => rfl
  | x :: l => by rw [List.map_cons, List.foldr_cons, List.foldr_cons, uni_sh0 d l, insD_sh]
theorem uni_sh (d : Nat) (a b : List Int) : uni (shL d a) (shL d b) = shL d (uni a b) := by
  rw [uni, uni, shL, shL, ← List.map_append, uni_sh0]
theorem modify_app {α : Type} (f : α → α) (b : List α) (k : Nat) : ∀ a : List α, (a ++ b).modify (a.length + k) f = a ++ b.modify k f
  | [] => by simp
  | x :: a => by
    rw [List.length_cons, show a.length + 1 + k = (a.length + k) + 1 by omega, List.cons_append, List.modify_succ_cons, modify_app f b k a, List.cons_append]
theorem modify_map {α β : Type} {g : α → β} {f : α → α} {f' : β → β} (h : ∀ x, f' (g x) = g (f x)) : ∀ (l : List α) (k : Nat), (l.map g).modify k f' = (l.modify k f).map g
  | [], k => by simp
  | x :: l, 0 => by simp [h]
  | x :: l, k + 1 => by simp [modify_map h l k]
section
variable {ps : List Po} {r : Int}
/-- Places behind others. -/
abbrev beh (ps : List Po) (r : Int) (Q : List Po) : List Po := ps ++ Q.map (shP ps.length r)
theorem lnk1ush {to : List Int} {i : Int} (hi : 0 ≤ i) (Q : List Po) : lnk1 (shL ps.length to) (beh ps r Q) (i + ps.length) = beh ps r (lnk1 to Q i) := by
  unfold lnk1 beh
  rw [show (i + (ps.length : Int)).toNat = ps.length + i.toNat by omega, modify_app, modify_map (f := fun p => { p with next := uni p.next to })]
  intro p
  simp only [shP, uni_sh]
theorem lnk_sh {to : List Int} : ∀ (fr : List Int) (Q : List Po), (∀ x ∈ fr, 0 ≤ x) → lnk (shL ps.length fr) (shL ps.length to) (beh ps r Q) = beh ps r (lnk fr to Q)
  | [], _, _ => rfl
  | i :: fr, Q, h => by
    have := lnk_sh (to := to) fr (lnk1 to Q i) fun x hx => h x (by simp [hx])
    simp only [lnk] at this ⊢
    rw [show shL ps.length (i :: fr) = (i + (ps.length : Int)) :: shL ps.length fr from rfl, List.foldl_cons, List.foldl_cons, lnk1ush (h i (by simp)), this]
theorem mrk_sh : ∀ (l : List Int) (Q : List Po), (∀ x ∈ l, 0 ≤ x) → mrk (shL ps.length l) (beh ps r Q) = beh ps r (mrk l Q)
  | [], _, _ => rfl
  | i :: l, Q, h => by
    have := mrk_sh l (mrk1 Q i) fun x hx => h x (by simp [hx])
    have hi := h i (by simp)
    have h1 : mrk1 (beh ps r Q) (i + ps.length) = beh ps r (mrk1 Q i) := by
      unfold mrk1 beh
      rw [show (i + (ps.length : Int)).toNat = ps.length + i.toNat by omega, modify_app, modify_map (f := fun p => { p with last := true })]
      intro p
      rfl
    simp only [mrk] at this ⊢
    rw [show shL ps.length (i :: l) = (i + (ps.length : Int)) :: shL ps.length l from rfl, List.foldl_cons, List.foldl_cons, h1, this]
theorem putG_sh (p : Po) (Q : List Po) (h : p.next = []) : putG (shP 0 r p) (beh ps r Q) = (beh ps r (putG p Q).1, shE ps.length (putG p Q).2) := by
  have h1 : shP 0 r p = shP ps.length r p := by simp [shP, h, shL]
  rw [h1]
  simp only [putG, beh, shE, shL, List.map_append, List.map_cons, List.map_nil, List.length_append, List.length_map, List.append_assoc]
  rw [show ((ps.length + Q.length : Nat) : Int) = (Q.length : Int) + ps.length by omega]
theorem thenE_sh (x y : En) : thenE (shE ps.length x) (shE ps.length y) = shE ps.length (thenE x y) := by
  obtain ⟨a, b, c⟩ := x
  obtain ⟨a', b', c'⟩ := y
  cases a <;> cases a' <;> simp [thenE, shE, uni_sh]
theorem thenG_sh {s : List Po × En} {y : En} (h : Re s.1.length s.2) : thenG (beh ps r s.1, shE ps.length s.2) (shE ps.length y) = (beh ps r (thenG s y).1, shE ps.length (thenG s y).2) := by
  unfold thenG
  rw [thenE_sh]
  refine Prod.ext ?_ rfl
  exact lnk_sh _ _ fun x hx => (h.2.2 x hx).1
theorem catG_sh : ∀ (ks : List En) {s : List Po × En}, Rn s.1.length s.1 → Re s.1.length s.2 → (∀ y ∈ ks, Re s.1.length y) →
    (ks.map (shE ps.length)).foldl thenG (beh ps r s.1, shE ps.length s.2) = (beh ps r (ks.foldl thenG s).1, shE ps.length (ks.foldl thenG s).2)
  | [], s, _, _, _ => rfl
  | y :: ks, s, h1, h2, h3 => by
    obtain ⟨a, b, c⟩ := thenG_ok h1 h2 (h3 y (by simp))
    rw [List.map_cons, List.foldl_cons, List.foldl_cons, thenG_sh h2]
    exact catG_sh ks (s := thenG s y) (by rw [a]; exact b) (by rw [a]; exact c) fun z hz => by rw [a]; exact h3 z (by simp [hz])
theorem altG_sh (d : Nat) : ∀ (ks : List En) (x : En), (ks.map (shE d)).foldl orE (shE d x) = shE d (ks.foldl orE x)
  | [], _ => rfl
  | y :: ks, x => by
    have : orE (shE d x) (shE d y) = shE d (orE x y) := by simp only [orE, shE, uni_sh]
    rw [List.map_cons, List.foldl_cons, List.foldl_cons, this, altG_sh d ks]
theorem headD_sh (d : Nat) (ks : List En) : (ks.map (shE d)).headD enN = shE d (ks.headD enN) := by cases ks <;> rfl
theorem nodeG_sh {b : Lb} {s : ISet} {ks : List En} {Q : List Po} (h : Rn Q.length Q) (hk : ∀ y ∈ ks, Re Q.length y) :
    nodeG r b s (ks.map (shE ps.length)) (beh ps r Q) = (beh ps r (nodeG 0 b s ks Q).1, shE ps.length (nodeG 0 b s ks Q).2) := by
  unfold nodeG
  split
  · rfl
  · split
    · exact putG_sh ⟨_, 1, 1, 0, false, []⟩ Q rfl
    · split
      · split
        · exact putG_sh ⟨_, _, _, 0, false, []⟩ Q rfl
        · have hx : Re Q.length (ks.headD enN) := by
            cases ks with
            | nil => exact re_nil _ _
            | cons x ks => exact hk x (by simp)
          rw [headD_sh]
          refine Prod.ext ?_ rfl
          exact lnk_sh _ _ fun x hx' => (hx.2.2 x hx').1
      · split
        · exact catG_sh ks (s := (Q, ⟨true, [], []⟩)) h (re_nil _ _) hk
        · exact Prod.ext rfl (altG_sh ps.length ks enN)
theorem getD_sh (d : Nat) (al : List En) (i : Nat) : (al.map (shE d)).getD i enN = shE d (al.getD i enN) := by
  rw [List.getD_eq_getElem?_getD, List.getD_eq_getElem?_getD, List.getElem?_map]
  cases al[i]? <;> rfl
theorem stepG_sh {l : List Node} {s : List Po × List En} {n : Node} (h : SOk s) : stepG l r (beh ps r s.1, s.2.map (shE ps.length)) n = (beh ps r (stepG l 0 s n).1, (stepG l 0 s n).2.map (shE ps.length)) := by
  unfold stepG
  simp only [List.length_map]
  split
  · rw [List.map_append]; rfl
  · have hm : (n.l.map fun k => (s.2.map (shE ps.length)).getD k.toNat enN) = (n.l.map fun k => s.2.getD k.toNat enN).map (shE ps.length) := by
      rw [List.map_map]
      exact List.map_congr_left fun k _ => getD_sh _ _ _
    rw [hm, nodeG_sh h.1 fun y hy => by
      obtain ⟨k, _, rfl⟩ := List.mem_map.1 hy
      exact getD_ok h.2 _]
    simp only [List.map_append, List.map_cons, List.map_nil]
theorem runG_sh (l : List Node) : ∀ (m : List Node) {s : List Po × List En}, SOk s → m.foldl (stepG l r) (beh ps r s.1, s.2.map (shE ps.length)) = (beh ps r (m.foldl (stepG l 0) s).1, (m.foldl (stepG l 0) s).2.map (shE ps.length))
  | [], _, _ => rfl
  | n :: m, s, h => by
    rw [List.foldl_cons, List.foldl_cons, stepG_sh h]
    exact runG_sh l m (stepG_ok h).1
end
/-- One plan's places behind others. -/
theorem one_sh (x : List Node) (r : Nat) (ps : List Po) : oneO x r ps = (beh ps r (oneO x 0 []).1, shE ps.length (oneO x 0 []).2) := by
  have h0 : SOk (([], []) : List Po × List En) := ⟨fun p hp => by simp at hp, fun e he => by simp at he⟩
  have h1 : listG x r ps = (beh ps r (listG x 0 []).1, (listG x 0 []).2.map (shE ps.length)) := by
    have := runG_sh (ps := ps) (r := (r : Int)) x x h0
    simpa [beh, listG] using this
  have h2 : (listG x r ps).2.getLastD enN = shE ps.length ((listG x 0 []).2.getLastD enN) := by
    rw [h1]
    simp only [List.getLastD_eq_getLast?, List.getLast?_map]
    cases (listG x 0 []).2.getLast? <;> rfl
  obtain ⟨a, b, _, _⟩ := list_ok (x := x) (r := 0) (ps := []) h0.1
  refine Prod.ext ?_ h2
  show mrk ((listG x r ps).2.getLastD enN).last (listG x r ps).1 = _
  rw [h2, h1]
  exact mrk_sh _ _ fun y hy => (b.2.2 y hy).1
theorem shE_first (d : Nat) (e : En) : (shE d e).first = shL d e.first := rfl
/-- First places of plans behind others come behind theirs. -/
theorem uni_beh {d n : Nat} {fi l : List Int} (h : Rs d fi) (h2 : Rs n l) : uni fi (shL d l) = fi ++ shL d l := by
  have hb : ∀ x ∈ shL d l, 0 ≤ x ∧ x < ((n + d : Nat) : Int) := fun x hx => by
    obtain ⟨y, hy, rfl⟩ := List.mem_map.1 hx
    have := h2.2 y hy
    omega
  obtain ⟨g1, g2⟩ := uni_eq (n := n + d) (a := fi) (b := shL d l) (fun x hx => by have := h.2 x hx; omega) hb
  refine rise_ext g1.1 ?_ fun x => by rw [g2, List.mem_append]
  rw [List.pairwise_append]
  refine ⟨h.1, ?_, fun x hx y hy => ?_⟩
  · rw [shL, List.pairwise_map]
    exact h2.1.imp fun h => by omega
  · obtain ⟨z, hz, rfl⟩ := List.mem_map.1 hy
    have := h.2 x hx
    have := h2.2 z hz
    omega
theorem beh_len (ps : List Po) (r : Int) (Q : List Po) : (beh ps r Q).length = ps.length + Q.length := by simp [beh]
/-- One plan more. -/
theorem apart_go {x : List Node} {xs : List (List Node)} {i : Nat} {ps P : List Po} {fi F : List Int} (hr : rightP x = true) (hrn : Rn ps.length ps) (hfi : Rs ps.length fi) (h : goO i (x :: xs) ps fi = some (P, F)) :
    ∃ f0 Q, ofG [x] = (f0, Q, 0) ∧ goO (i + 1) xs (beh ps i Q) (fi ++ shL ps.length f0) = some (P, F) ∧ Rn (beh ps i Q).length (beh ps i Q) ∧ Rs (beh ps i Q).length (fi ++ shL ps.length f0) ∧ (beh ps i Q).length ≤ 512 ∧ Rn Q.length Q ∧ Rs Q.length f0 := by
  have h0 : Rn ([] : List Po).length [] := fun p hp => by simp at hp
  obtain ⟨a1, a2, _, _⟩ := one_ok (x := x) (r := 0) h0
  obtain ⟨b1, b2, _, _⟩ := one_ok (x := x) (r := i) hrn
  have hs := one_sh x i ps
  rw [goO] at h
  rw [hs] at b1 b2 h
  generalize he : oneO x 0 [] = o at *
  obtain ⟨Q, e⟩ := o
  simp only at h a1 a2 b1 b2
  split at h
  · cases h
  · rename_i hl
    have h4 := uni_beh hfi a2.1
    refine ⟨e.first, Q, ?_, ?_, b1, ?_, by omega, a1, a2.1⟩
    · have hl' := beh_len ps i Q
      rw [ofG, if_neg (by simp [hr]), goO, he, if_neg (by simp only; omega), goO, uni_nil a2.1]
    · rw [← h4]; exact h
    · rw [← h4]; exact rs_uni (rs_mono hfi (by rw [beh_len]; omega)) b2.1
theorem ofG_ok {ls : List (List Node)} {F : List Int} {P : List Po} (h : ofG ls = (F, P, 0)) : ls.length ≤ 512 ∧ (∀ x ∈ ls, rightP x = true) ∧ goO 0 ls [] [] = some (P, F) := by
  unfold ofG at h
  split at h
  · cases h
  · rename_i hc
    refine ⟨?_, fun x hx => ?_, ?_⟩
    · cases Nat.lt_or_ge 512 ls.length with
      | inl h => exact absurd (.inl h) hc
      | inr h => exact h
    · cases hr : rightP x with
      | true => rfl
      | false => exact absurd (.inr (List.any_eq_true.2 ⟨x, hx, by simp [hr]⟩)) hc
    · split at h
      · cases h
      · rename_i ps fi hgo
        cases h; exact hgo
theorem goO_ok : ∀ {ls : List (List Node)} {i : Nat} {ps P : List Po} {fi F : List Int}, ps.length ≤ 512 → Rn ps.length ps → Rs ps.length fi → goO i ls ps fi = some (P, F) → P.length ≤ 512 ∧ Rn P.length P ∧ Rs P.length F
  | [], i, ps, P, fi, F, h1, h2, h3, h => by
    rw [goO] at h; cases h; exact ⟨h1, h2, h3⟩
  | x :: ls, i, ps, P, fi, F, h1, h2, h3, h => by
    rw [goO] at h
    obtain ⟨b1, b2, b3, _⟩ := one_ok (x := x) (r := i) h2
    split at h
    · cases h
    · exact goO_ok (by omega) b1 (rs_uni (rs_mono h3 b3) b2.1) h
end Go.Rad
/- What places of plans are by themselves. -/
namespace Go.Rad
open Go Fo
/-! What a place is stays so. -/
def poOk (p : Po) : Prop := p.s ≠ ISet.none ∧ 1 ≤ p.lo ∧ p.lo ≤ p.hi ∧ p.hi ≤ 4096
def psOk (ps : List Po) : Prop := ∀ p ∈ ps, poOk p
theorem psOk_mod {f : Po → Po} (hf : ∀ p, poOk p → poOk (f p)) {ps : List Po} (h : psOk ps) (k : Nat) : psOk (ps.modify k f) := by
  intro p hp
  obtain ⟨j, hj, rfl⟩ := List.getElem_of_mem hp
  rw [List.getElem_modify]
  have hj' : j < ps.length := by simpa using hj
  split
  · exact hf _ (h _ (List.getElem_mem hj'))
  · exact h _ (List.getElem_mem hj')
theorem psOk_lnk {to : List Int} : ∀ (fr : List Int) {ps : List Po}, psOk ps → psOk (lnk fr to ps)
  | [], _, h => h
  | i :: fr, ps, h => by rw [lnk, List.foldl_cons]; exact psOk_lnk fr (psOk_mod (f := fun p => { p with next := uni p.next to }) (fun p hp => hp) h _)
theorem psOk_mrk : ∀ (l : List Int) {ps : List Po}, psOk ps → psOk (mrk l ps)
  | [], _, h => h
  | i :: l, ps, h => by rw [mrk, List.foldl_cons]; exact psOk_mrk l (psOk_mod (f := fun p => { p with last := true }) (fun p hp => hp) h _)
theorem psOk_cat : ∀ (ks : List En) {s : List Po × En}, psOk s.1 → psOk (ks.foldl thenG s).1
  | [], _, h => h
  | y :: ks, s, h => psOk_cat ks (s := thenG s y) (psOk_lnk _ h)
theorem psOk_put {p : Po} {ps : List Po} (h : psOk ps) (hp : poOk p) : psOk (putG p ps).1 := by
  intro q hq
  simp only [putG, List.mem_append, List.mem_singleton] at hq
  rcases hq with hq | rfl
  · exact h q hq
  · exact hp
def cntF : Fo → Nat
  | .nil => 0
  | .node b k r => cntF k + (if b.op = 2 then 1 else 0) + cntF r
theorem cnt_lay : ∀ (f : Fo) (i : Nat), (f.lay i).countP (fun n => decide (n.op = 2)) = cntF f
  | .nil, _ => rfl
  | .node b k r, i => by
    rw [lay, List.countP_append, List.countP_cons, cnt_lay k, cnt_lay r, cntF]
    have : (Lb.node b (k.roots i)).op = b.op := rfl
    rw [this]
    by_cases h : b.op = 2
    · simp only [h, decide_true, if_true]; omega
    · simp only [h, decide_false, if_false]
      simp
theorem shapeL_set {b : Lb} {d : Nat} (h : shapeL b d = true) (h2 : b.op = 2) : b.s ≠ ISet.none := by
  simp only [shapeL, shapeOk, h2] at h
  simp only [show ¬ (2 : Int) = 1 by decide, if_false, if_true, Bool.and_eq_true, decide_eq_true_eq] at h
  exact h.1.1.1
theorem glF_own (rule : Int) : ∀ (f : Fo) (ps : List Po), f.shapeF = true → isP f = true → no6 f = true → psOk ps → psOk (glF rule f ps).1 ∧ (glF rule f ps).1.length = ps.length + cntF f
  | .nil, ps, _, _, _, h => ⟨h, rfl⟩
  | .node b k r, ps, hs, hp, h6, h => by
    simp only [shapeF, isP, no6, all, Bool.and_eq_true, decide_eq_true_eq] at hs hp h6
    have hnode : psOk (nodeG rule b (setOf k) (if cntd b then (ps, []) else glF rule k ps).2 (if cntd b then (ps, []) else glF rule k ps).1).1 ∧ (nodeG rule b (setOf k) (if cntd b then (ps, []) else glF rule k ps).2 (if cntd b then (ps, []) else glF rule k ps).1).1.length = ps.length + (cntF k + (if b.op = 2 then 1 else 0)) := by
      cases hc : cntd b
      · simp only [Bool.false_eq_true, if_false]
        have hc' : ¬ (b.op = 5 ∧ 0 < b.hi) := by simpa [cntd] using hc
        obtain ⟨g1, g2⟩ := glF_own rule k ps hs.1.2 hp.1.2 h6.1.2 h
        generalize glF rule k ps = s at g1 g2
        unfold nodeG
        split
        · rename_i h1; rw [if_neg (by omega)]; exact ⟨g1, by simp only; omega⟩
        · split
          · rename_i h2
            refine ⟨psOk_put g1 ⟨shapeL_set hs.1.1 h2, Int.le_refl _, Int.le_refl _, show (1 : Int) ≤ 4096 by decide⟩, ?_⟩
            simp only [putG, List.length_append, List.length_cons, List.length_nil]; omega
          · rename_i h2
            split
            · rename_i h5
              rw [if_neg (fun h => hc' ⟨h5, h⟩)]
              exact ⟨psOk_lnk _ g1, by simp only [lnk_len]; omega⟩
            · split
              · refine ⟨psOk_cat _ g1, ?_⟩
                have : ∀ (ks : List En) (s : List Po × En), (ks.foldl thenG s).1.length = s.1.length := by
                  intro ks
                  induction ks with
                  | nil => intro s; rfl
                  | cons y ks ih => intro s; rw [List.foldl_cons, ih]; exact lnk_len _ _ _
                simp only [catG, this]; omega
              · exact ⟨g1, by simp only; omega⟩
      · simp only [if_true]
        have hc' : b.op = 5 ∧ 0 < b.hi := by simpa [cntd] using hc
        obtain ⟨q1, _, _, q4, q5, q6⟩ := shapeL_rep hs.1.1 hc'.1
        have hpb := hp.1.1
        simp only [Bool.not_eq_true', decide_eq_false_iff_not] at hpb
        have hb : k.isBytes = true := by
          cases hx : k.isBytes
          · exact absurd ⟨hc'.1, by omega, .inl hx⟩ hpb
          · rfl
        have hlo : ¬ (b.lo < 1 ∨ b.hi < 2) := fun h => hpb ⟨hc'.1, by omega, .inr h⟩
        obtain ⟨b', rfl, h2'⟩ := bytes_one q1 hb hs.1.2
        have hsb : b'.s ≠ ISet.none := by
          have := hs.1.2
          simp only [shapeF, all, Bool.and_eq_true] at this
          exact shapeL_set this.1.1 h2'
        unfold nodeG
        rw [if_neg (by omega), if_neg (by omega), if_pos hc'.1, if_pos hc'.2]
        refine ⟨psOk_put h ⟨hsb, by simp only; omega, by simp only; omega, by simp only; omega⟩, ?_⟩
        simp only [putG, List.length_append, List.length_cons, List.length_nil, cntF, h2', if_true, if_neg (show ¬ b.op = 2 by omega)]
    simp only [glF]
    generalize nodeG rule b (setOf k) (if cntd b then (ps, []) else glF rule k ps).2 (if cntd b then (ps, []) else glF rule k ps).1 = s2 at hnode
    obtain ⟨r1, r2⟩ := glF_own rule r s2.1 hs.2 hp.2 h6.2 hnode.1
    refine ⟨r1, ?_⟩
    rw [r2, hnode.2, cntF]; omega
/-- How many bytes a plan has. -/
def bytesN (x : List Node) : Nat := x.countP fun n => decide (n.op = 2)
theorem one_own {x : List Node} (h : rightP x = true) : psOk (oneO x 0 []).1 ∧ (oneO x 0 []).1.length = bytesN x := by
  have h2 := h
  rw [rightP, Bool.and_eq_true] at h2
  obtain ⟨f, hd, rfl, hs, hz, h6⟩ := (plain_fo _).1 h2.1
  rw [right_fo hd hs hz h6] at h
  obtain ⟨t1, _, _⟩ := list_tree hd hs h 0 []
  obtain ⟨g1, g2⟩ := glF_own 0 f [] hs h h6 (fun p hp => by simp at hp)
  rw [bytesN, cnt_lay]
  simp only [oneO, mrk_len, Int.natCast_zero]
  rw [t1]
  refine ⟨psOk_mrk _ g1, ?_⟩
  rw [g2]; simp
/-- Places in the order of their rules; one follows only one of its own. -/
def ruOk (i : Nat) (ps : List Po) : Prop := (∀ (a b : Nat) (p q : Po), a ≤ b → ps[a]? = some p → ps[b]? = some q → p.rule ≤ q.rule) ∧ (∀ p ∈ ps, 0 ≤ p.rule ∧ p.rule < (i : Int)) ∧ ∀ p ∈ ps, ∀ k ∈ p.next, ∃ q, ps[k.toNat]? = some q ∧ q.rule = p.rule
theorem ruOk_beh {i : Nat} {ps Q : List Po} (h : ruOk i ps) (hr : Rn ps.length ps) (hq : Rn Q.length Q) : ruOk (i + 1) (beh ps i Q) := by
  obtain ⟨h1, h2, h3⟩ := h
  have hnew : ∀ (b : Nat) (q : Po), (beh ps i Q)[b]? = some q → (b < ps.length ∧ ps[b]? = some q) ∨ (ps.length ≤ b ∧ q.rule = (i : Int) ∧ ∃ p, Q[b - ps.length]? = some p ∧ q = shP ps.length i p) := by
    intro b q hb
    simp only [beh, List.getElem?_append] at hb
    split at hb
    · rename_i hlt; exact .inl ⟨hlt, hb⟩
    · rename_i hlt
      rw [List.getElem?_map] at hb
      obtain ⟨p, hp, rfl⟩ := Option.map_eq_some_iff.1 hb
      exact .inr ⟨by omega, rfl, p, hp, rfl⟩
  refine ⟨fun a b p q hab hp hq' => ?_, fun p hp => ?_, fun p hp k hk => ?_⟩
  · rcases hnew a p hp with ⟨_, ha⟩ | ⟨ha, ha2, _⟩
    · rcases hnew b q hq' with ⟨_, hb⟩ | ⟨_, hb, _⟩
      · exact h1 a b p q hab ha hb
      · have := h2 p (List.mem_of_getElem? ha); omega
    · rcases hnew b q hq' with ⟨hb, _⟩ | ⟨_, hb, _⟩
      · omega
      · omega
  · obtain ⟨b, hb⟩ := List.mem_iff_getElem?.1 hp
    rcases hnew b p hb with ⟨_, hb⟩ | ⟨_, hb, _⟩
    · have := h2 p (List.mem_of_getElem? hb); omega
    · omega
  · obtain ⟨b, hb⟩ := List.mem_iff_getElem?.1 hp
    rcases hnew b p hb with ⟨_, hb⟩ | ⟨_, hb, y, hy, rfl⟩
    · obtain ⟨q, hq', he⟩ := h3 p (List.mem_of_getElem? hb) k hk
      refine ⟨q, ?_, he⟩
      rw [beh, List.getElem?_append_left (List.getElem?_eq_some_iff.1 hq').1]; exact hq'
    · simp only [shP, shL, List.mem_map] at hk
      obtain ⟨z, hz, rfl⟩ := hk
      have hzb := (hq y (List.mem_of_getElem? hy)).2 z hz
      have hlt : z.toNat < Q.length := by omega
      refine ⟨shP ps.length i Q[z.toNat], ?_, rfl⟩
      rw [beh, List.getElem?_append_right (by omega), show (z + (ps.length : Int)).toNat - ps.length = z.toNat by omega, List.getElem?_map, List.getElem?_eq_getElem hlt]
      rfl
theorem psOk_beh {i : Int} {ps Q : List Po} (h : psOk ps) (hq : psOk Q) : psOk (beh ps i Q) := by
  intro p hp
  rcases List.mem_append.1 hp with hp | hp
  · exact h p hp
  · obtain ⟨y, hy, rfl⟩ := List.mem_map.1 hp
    exact hq y hy
theorem go_own : ∀ {ls : List (List Node)} {i : Nat} {ps P : List Po} {fi F : List Int}, (∀ x ∈ ls, rightP x = true) → Rn ps.length ps → Rs ps.length fi → ps.length ≤ 512 → psOk ps → ruOk i ps → goO i ls ps fi = some (P, F) →
    psOk P ∧ ruOk (i + ls.length) P ∧ P.length = ps.length + (ls.map bytesN).sum ∧ Rn P.length P ∧ Rs P.length F ∧ P.length ≤ 512
  | [], i, ps, P, fi, F, _, h1, h2, hb, h3, h4, h => by
    rw [goO] at h; cases h; exact ⟨h3, h4, rfl, h1, h2, hb⟩
  | x :: ls, i, ps, P, fi, F, hr, h1, h2, hb, h3, h4, h => by
    have hx := hr x (by simp)
    obtain ⟨f0, Q, q1, q2, q3, q4, q5, q6, q7⟩ := apart_go hx h1 h2 h
    obtain ⟨o1, o2⟩ := one_own hx
    have hQ : Q = (oneO x 0 []).1 := by
      obtain ⟨_, _, hg⟩ := ofG_ok q1
      rw [goO] at hg
      split at hg
      · cases hg
      · rw [goO] at hg; cases hg; rfl
    obtain ⟨r1, r2, r3, r4, r5, r6⟩ := go_own (fun y hy => hr y (by simp [hy])) q3 q4 q5 (psOk_beh h3 (by rw [hQ]; exact o1)) (ruOk_beh h4 h1 q6) q2
    refine ⟨r1, by rw [List.length_cons, ← Nat.add_assoc, Nat.add_right_comm]; exact r2, ?_, r4, r5, r6⟩
    rw [r3, beh_len, hQ, o2, List.map_cons, List.sum_cons]; omega
/-- Places of plans: so many, right, in the order of their rules. -/
theorem own_law {ls : List (List Node)} {F : List Int} {P : List Po} (h : ofG ls = (F, P, 0)) : psOk P ∧ ruOk ls.length P ∧ P.length = (ls.map bytesN).sum ∧ Rn P.length P ∧ Rs P.length F ∧ P.length ≤ 512 := by
  obtain ⟨o1, o2, o3⟩ := ofG_ok h
  obtain ⟨r1, r2, r3, r4, r5, r6⟩ := go_own o2 (fun p hp => by simp at hp) (rs_nil _) (by simp) (fun p hp => by simp at hp) ⟨fun a b p q _ h => by simp at h, fun p hp => by simp at hp, fun p hp => by simp at hp⟩ o3
  rw [Nat.zero_add] at r2
  exact ⟨r1, r2, by simpa using r3, r4, r5, r6⟩
end Go.Rad
/- A star over a plan; sets of numbers as maps' keys. -/
namespace Go.Rad
open Go Fo
/-! Keys. -/
def mkM (ks : List Int) : List (Int × AVal) := ks.map fun k => (k, .bool true)
def addK (ks : List Int) (k : Int) : List Int := if k ∈ ks then ks else ks ++ [k]
theorem mput_mkM (k : Int) : ∀ ks : List Int, mput (mkM ks) k (.bool true) = mkM (addK ks k)
  | [] => rfl
  | x :: ks => by
    have ih := mput_mkM k ks
    simp only [mkM, List.map_cons, mput] at ih ⊢
    unfold addK at ih ⊢
    by_cases h : x = k
    · subst h; rw [if_pos rfl, if_pos (by simp)]; rfl
    · rw [if_neg h, ih]
      by_cases h2 : k ∈ ks
      · rw [if_pos h2, if_pos (by simp [h2])]; rfl
      · rw [if_neg h2, if_neg (by simp [h2]; exact fun e => h e.symm)]; rfl
theorem mfind_mkM (k : Int) : ∀ ks : List Int, mfind (mkM ks) k = if k ∈ ks then some (.bool true) else none
  | [] => rfl
  | x :: ks => by
    have ih := mfind_mkM k ks
    unfold mfind mkM at ih ⊢
    simp only [List.map_cons, List.find?_cons]
    by_cases h : x = k
    · subst h; simp
    · rw [decide_eq_false h, ih]
      by_cases h2 : k ∈ ks
      · rw [if_pos h2, if_pos (by simp [h2])]
      · rw [if_neg h2, if_neg (by simp [h2]; exact fun e => h e.symm)]
theorem addK_mem {ks : List Int} {k x : Int} : x ∈ addK ks k ↔ x ∈ ks ∨ x = k := by
  unfold addK
  split
  · rename_i h
    constructor
    · exact .inl
    · rintro (h2 | rfl)
      · exact h2
      · exact h
  · simp
theorem addK_nodup {ks : List Int} {k : Int} (h : ks.Nodup) : (addK ks k).Nodup := by
  unfold addK
  split
  · exact h
  · rename_i h2
    rw [List.nodup_append]
    refine ⟨h, by simp, fun a ha b hb => ?_⟩
    rw [List.mem_singleton.1 hb]
    rintro rfl
    exact h2 ha
theorem addK_len {ks : List Int} {k : Int} : (addK ks k).length ≤ ks.length + 1 := by
  unfold addK; split
  · omega
  · simp
def addAll (ks l : List Int) : List Int := l.foldl addK ks
theorem addAll_mem {x : Int} : ∀ (l ks : List Int), x ∈ addAll ks l ↔ x ∈ ks ∨ x ∈ l
  | [], ks => by simp [addAll]
  | k :: l, ks => by
    rw [addAll, List.foldl_cons]
    have := addAll_mem (x := x) l (addK ks k)
    rw [addAll] at this
    rw [this, addK_mem, List.mem_cons, or_assoc]
theorem addAll_nodup : ∀ (l : List Int) {ks : List Int}, ks.Nodup → (addAll ks l).Nodup
  | [], _, h => h
  | k :: l, ks, h => by rw [addAll, List.foldl_cons]; exact addAll_nodup l (addK_nodup h)
theorem addAll_len : ∀ (l ks : List Int), (addAll ks l).length ≤ ks.length + l.length
  | [], _ => Nat.le_refl _
  | k :: l, ks => by
    rw [addAll, List.foldl_cons]
    have := addAll_len l (addK ks k)
    have h2 := addK_len (ks := ks) (k := k)
    rw [addAll] at this
    simp only [List.length_cons]
    omega
theorem addAll_take {ks l : List Int} {i : Nat} {k : Int} (h : l[i]? = some k) : addAll ks (l.take (i + 1)) = addK (addAll ks (l.take i)) k := by
  rw [take_one h]; simp [addAll]
theorem nodup_len : ∀ {K L : List Int}, K.Nodup → (∀ x ∈ K, x ∈ L) → K.length ≤ L.length
  | [], _, _, _ => Nat.zero_le _
  | k :: K, L, h, hm => by
    rw [List.nodup_cons] at h
    have h1 := hm k (by simp)
    have h2 := nodup_len (K := K) (L := L.erase k) h.2 fun x hx => (List.mem_erase_of_ne (fun e => by subst e; exact h.1 hx)).2 (hm x (by simp [hx]))
    rw [List.length_erase_of_mem h1] at h2
    have := List.length_pos_of_mem h1
    simp only [List.length_cons]
    omega
theorem rise_nodup {l : List Int} (h : l.Pairwise (· < ·)) : l.Nodup := h.imp fun h => by omega
/-! Links and marks, place by place. -/
theorem mrk_get : ∀ (l : List Int) (Q : List Po) (i : Nat), (∀ x ∈ l, 0 ≤ x) → (mrk l Q)[i]? = (Q[i]?).map fun p => { p with last := p.last || decide ((i : Int) ∈ l) }
  | [], Q, i, _ => by
    simp only [mrk, List.foldl_nil, List.not_mem_nil, decide_false, Bool.or_false]
    cases Q[i]? <;> rfl
  | a :: l, Q, i, h => by
    have ha := h a (by simp)
    rw [mrk, List.foldl_cons]
    have ih := mrk_get l (mrk1 Q a) i fun x hx => h x (by simp [hx])
    rw [mrk] at ih
    rw [ih, mrk1, List.getElem?_modify]
    cases hq : Q[i]? with
    | none => rfl
    | some p =>
      simp only [Option.map_eq_map, Option.map_some, Option.some.injEq]
      by_cases e : a.toNat = i
      · have : (i : Int) = a := by omega
        rw [if_pos e, this]; simp
      · have hne : ¬ (i : Int) = a := by omega
        rw [if_neg e]
        simp [hne]
theorem lnk_get {to : List Int} : ∀ (l : List Int) (Q : List Po) (i : Nat), l.Nodup → (∀ x ∈ l, 0 ≤ x) → (lnk l to Q)[i]? = (Q[i]?).map fun p => if (i : Int) ∈ l then { p with next := uni p.next to } else p
  | [], Q, i, _, _ => by
    simp only [lnk, List.foldl_nil, List.not_mem_nil, if_false]
    cases Q[i]? <;> rfl
  | a :: l, Q, i, hd, h => by
    have ha := h a (by simp)
    rw [List.nodup_cons] at hd
    rw [lnk, List.foldl_cons]
    have ih := lnk_get (to := to) l (lnk1 to Q a) i hd.2 fun x hx => h x (by simp [hx])
    rw [lnk] at ih
    rw [ih, lnk1, List.getElem?_modify]
    cases hq : Q[i]? with
    | none => rfl
    | some p =>
      simp only [Option.map_eq_map, Option.map_some, Option.some.injEq]
      by_cases e : a.toNat = i
      · have e2 : (i : Int) = a := by omega
        rw [if_pos e, if_neg (by rw [e2]; exact hd.1), if_pos (by rw [e2]; simp)]
      · have hne : ¬ (i : Int) = a := by omega
        rw [if_neg e]
        by_cases hm : (i : Int) ∈ l
        · rw [if_pos hm, if_pos (by simp [hm])]
        · rw [if_neg hm, if_neg (by simp [hm, hne])]
/-! No place is a last one before all are laid. -/
def noLast (ps : List Po) : Prop := ∀ p ∈ ps, p.last = false
theorem noLast_mod {f : Po → Po} (hf : ∀ p, p.last = false → (f p).last = false) {ps : List Po} (h : noLast ps) (k : Nat) : noLast (ps.modify k f) := by
  intro p hp
  obtain ⟨j, hj, rfl⟩ := List.getElem_of_mem hp
  rw [List.getElem_modify]
  have hj' : j < ps.length := by simpa using hj
  split
  · exact hf _ (h _ (List.getElem_mem hj'))
  · exact h _ (List.getElem_mem hj')
theorem noLast_lnk {to : List Int} : ∀ (fr : List Int) {ps : List Po}, noLast ps → noLast (lnk fr to ps)
  | [], _, h => h
  | i :: fr, ps, h => by rw [lnk, List.foldl_cons]; exact noLast_lnk fr (noLast_mod (f := fun p => { p with next := uni p.next to }) (fun p hp => hp) h _)
theorem noLast_cat : ∀ (ks : List En) {s : List Po × En}, noLast s.1 → noLast (ks.foldl thenG s).1
  | [], _, h => h
  | y :: ks, s, h => noLast_cat ks (s := thenG s y) (noLast_lnk _ h)
theorem noLast_put {p : Po} {ps : List Po} (h : noLast ps) (hp : p.last = false) : noLast (putG p ps).1 := by
  intro q hq
  simp only [putG, List.mem_append, List.mem_singleton] at hq
  rcases hq with hq | rfl
  · exact h q hq
  · exact hp
theorem noLast_run (l : List Node) (rule : Int) : ∀ (m : List Node) {s : List Po × List En}, noLast s.1 → noLast (m.foldl (stepG l rule) s).1
  | [], _, h => h
  | n :: m, s, h => by
    rw [List.foldl_cons]
    refine noLast_run l rule m ?_
    unfold stepG
    split
    · exact h
    · simp only
      unfold nodeG
      split
      · exact h
      · split
        · exact noLast_put h rfl
        · split
          · split
            · exact noLast_put h rfl
            · exact noLast_lnk _ h
          · split
            · exact noLast_cat _ h
            · exact h
/-- A star over a plan. -/
def starN (l : List Node) : List Node := l ++ [⟨5, ISet.none, [(l.length : Int) - 1], 0, -1, ByteArray.empty⟩]
theorem star_law {l : List Node} (h : rightP l = true) (hl : l.length ≤ 200) : ∃ (F : List Int) (P P' : List Po), ofG [l] = (F, P, 0) ∧ ofG [starN l] = (F, P', 0) ∧ P'.length = P.length ∧ P.length ≤ 200 ∧ Rn P.length P ∧ Rs P.length F ∧
    ∀ (i : Nat) (p : Po), P[i]? = some p → P'[i]? = some { p with next := if p.last then uni p.next F else p.next } := by
  have h2 := h
  rw [rightP, Bool.and_eq_true] at h2
  obtain ⟨f, hd, rfl, hs, hz, h6⟩ := (plain_fo _).1 h2.1
  have hp := h
  rw [right_fo hd hs hz h6] at hp
  have hll : (f.lay 0).length = f.size := lay_len f 0
  have hsz := size_pos hd
  -- the star's forest
  obtain ⟨g, hg⟩ : ∃ g : Fo, g = .node (repL 0 (-1)) f .nil := ⟨_, rfl⟩
  have g1 : g.deg = 1 := by rw [hg]; rfl
  have g2 : starN (f.lay 0) = g.lay 0 := by
    rw [hg, lay, roots_one hd, starN, hll]
    simp only [lay]
    congr 2
    simp only [Lb.node, repL, Node.mk.injEq, List.cons.injEq, and_true, true_and]
    omega
  have g3 : g.shapeF = true := by
    have : shapeL (repL 0 (-1)) f.deg = true := by rw [hd]; simp [shapeL, shapeOk, repL]
    simp only [shapeF] at hs
    rw [hg]
    simp only [shapeF, all, this, hs]; rfl
  have g4 : g.size ≤ 1024 := by rw [hg]; simp only [size]; omega
  have g5 : no6 g = true := by rw [hg]; simp only [no6, all, repL] at h6 ⊢; rw [h6]; rfl
  have g6 : isP g = true := by rw [hg]; simp only [isP, all, repL] at hp ⊢; rw [hp]; rfl
  have hr' : rightP (starN (f.lay 0)) = true := by rw [g2, right_fo g1 g3 g4 g5]; exact g6
  obtain ⟨t1, t2, _⟩ := list_tree hd hs hp 0 []
  obtain ⟨u1, u2, _⟩ := list_tree g1 g3 g6 0 []
  have hlen : (glF 0 f []).2.length = 1 := by rw [glF_len]; exact hd
  obtain ⟨e, he⟩ := List.length_eq_one_iff.1 hlen
  have hgl : glF 0 g [] = (lnk e.last e.first (glF 0 f []).1, [{ e with null := true }]) := by
    rw [hg]
    simp only [glF]
    rw [if_neg (show ¬ cntd (repL 0 (-1)) = true by decide)]
    unfold nodeG
    rw [if_neg (show ¬ (repL 0 (-1)).op = 1 by decide), if_neg (show ¬ (repL 0 (-1)).op = 2 by decide), if_pos (show (repL 0 (-1)).op = 5 by decide), if_neg (show ¬ 0 < (repL 0 (-1)).hi by decide), he]
    rfl
  obtain ⟨a1, a2, a3, a4⟩ := list_ok (x := f.lay 0) (r := 0) (ps := []) (fun p hp => by simp at hp)
  have nl : noLast (listG (f.lay 0) 0 []).1 := noLast_run _ _ _ (s := ([], [])) fun p hp => by simp at hp
  rw [he] at t2
  simp only [List.headD_cons] at t2
  rw [hgl] at u1 u2
  simp only [List.headD_cons] at u1 u2
  obtain ⟨Q, hQ⟩ : ∃ Q, Q = (glF 0 f []).1 := ⟨_, rfl⟩
  rw [← hQ] at t1 u1
  clear hQ hgl he hlen
  simp only [Int.natCast_zero] at a1 a2 a3 a4
  rw [t1] at a1 a2 a3 a4 nl
  rw [t2] at a2
  have hQl : Q.length ≤ 200 := by simp only [List.length_nil, Nat.zero_add] at a4; omega
  have o1 : oneO (f.lay 0) 0 [] = (mrk e.last Q, e) := by
    rw [oneO, show ((0 : Nat) : Int) = 0 from rfl, t1, t2]
  have o2 : oneO (starN (f.lay 0)) 0 [] = (mrk e.last (lnk e.last e.first Q), { e with null := true }) := by
    rw [g2, oneO, show ((0 : Nat) : Int) = 0 from rfl, u1, u2]
  have hnn : ∀ x ∈ e.last, 0 ≤ x := fun x hx => (a2.2.2 x hx).1
  refine ⟨e.first, mrk e.last Q, mrk e.last (lnk e.last e.first Q), ?_, ?_, by simp only [mrk_len, lnk_len], by rw [mrk_len]; exact hQl, by rw [mrk_len]; exact rn_mrk _ a1, by rw [mrk_len]; exact a2.1, fun i p hip => ?_⟩
  · rw [ofG, if_neg (by simp [h]), goO, o1, if_neg (by simp only [mrk_len]; omega), goO, uni_nil a2.1]
  · rw [ofG, if_neg (by simp [hr']), goO, o2, if_neg (by simp only [mrk_len, lnk_len]; omega), goO, uni_nil a2.1]
  · rw [mrk_get _ _ _ hnn] at hip
    rw [mrk_get _ _ _ hnn, lnk_get _ _ _ (rise_nodup a2.2.1) hnn]
    cases hq : Q[i]? with
    | none => rw [hq] at hip; cases hip
    | some y =>
      rw [hq] at hip
      simp only [Option.map_some, Option.some.injEq] at hip ⊢
      have hy := nl y (List.mem_of_getElem? hq)
      subst hip
      simp only [hy, Bool.false_or]
      by_cases hm : (i : Int) ∈ e.last
      · simp [hm, hy]
      · simp [hm, hy]
end Go.Rad
/- Ghost steps between a region's operations. -/
namespace Go.Rad
open Go
section
variable {P : Program} {f : Nat} {fn : Func} {ops : List Oper} {n : Nat} {k : List Item} {tm : Tm} {sto : Sto} {R : AVal → Sto → Prop}
theorem RGood.freeze (id : Nat) {g esz : Nat} {l : List (List AVal)} (hget : sget sto id = some (g, .row esz l)) (h : RGood P f fn [] ops n k (rfT id g l tm) (rfS id g l (sdel sto id)) R) : RGood P f fn [] ops n k tm sto R := by
  refine ⟨?_⟩
  intro E G a w b h1 h2 h3 h4 h5 h6 h7 h8 h9
  obtain ⟨G', hext, hw', hs', hr⟩ := all_freeze h7 h8 hget
  have hd : a.defers = [] := by
    cases hd : a.defers with
    | nil => rfl
    | cons => rw [hd] at h5; simp [DfOk] at h5
  exact h.go E G' a w b h1 h2 h3 h4 (by rw [hd]; trivial) (h6.trans hext) hw' hs' fun t => by rw [lk_rfT]; exact hr _ _ (h9 t)
theorem RGood.reRow {df : List DDel} (id : Nat) {g esz : Nat} {l : List (List AVal)} (l' : List (List AVal)) (hg : sget sto id = some (g, .row esz l)) (hl : l = l') (h : RGood P f fn df ops n k tm (sput sto id (g, .row esz l')) R) : RGood P f fn df ops n k tm sto R := by
  subst hl
  have hs : ∀ i, sget (sput sto id (g, .row esz l)) i = sget sto i := by
    intro i
    rw [sget_sput]
    split
    · rename_i e; subst e; exact hg.symm
    · rfl
  refine ⟨fun E G a w b h1 h2 h3 h4 h5 h6 h7 h8 h9 => h.go E G a w b h1 h2 h3 h4 h5 h6 h7 ⟨fun i g' o hi => ?_, fun i i' g1 g2 o o' hi hi' => ?_⟩ h9⟩
  · rw [hs] at hi; exact h8.obj _ _ _ hi
  · rw [hs] at hi hi'; exact h8.apart _ _ _ _ _ _ hi hi'
end
end Go.Rad
/- An empty map may be one whose keys are numbers. -/
namespace Go.Rad
open Go
theorem AGood.mapInt {P : Program} {f : Nat} {fn : Func} {df : List DDel} {k : List Item} {tm : Tm} {sto : Sto} {R : AVal → Sto → Prop} (id : Nat) {g : Nat} (hg : sget sto id = some (g, .mp [])) (h : AGood P f fn df k tm (sput sto id (g, .mpi [])) R) : AGood P f fn df k tm sto R := by
  refine ⟨fun E G a w b h1 h2 h3 h4 h5 h6 h7 h8 h9 => h.go E G a w b h1 h2 h3 h4 h5 h6 h7 ⟨fun i g' o hi => ?_, fun i i' g1 g2 o o' hi hi' => ?_⟩ h9⟩
  · rw [sget_sput] at hi
    split at hi
    · rename_i e; subst e
      cases hi
      obtain ⟨b', cap, esz, m1, m2, me, cl, m3, m4, m5, _⟩ := h8.obj _ _ _ hg
      exact ⟨b', cap, esz, m1, m2, me, cl, m3, m4, m5, fun j x hx => by simp at hx⟩
    · exact h8.obj _ _ _ hi
  · have key : ∀ i g1 o, sget (sput sto id (g, .mpi [])) i = some (g1, o) → ∃ o', sget sto i = some (g1, o') := by
      intro i g1 o hi
      rw [sget_sput] at hi
      split at hi
      · rename_i e; subst e; cases hi; exact ⟨_, hg⟩
      · exact ⟨_, hi⟩
    obtain ⟨o1, k1⟩ := key _ _ _ hi
    obtain ⟨o2, k2⟩ := key _ _ _ hi'
    exact h8.apart _ _ _ _ _ _ k1 k2
end Go.Rad
