/- A call on known things, reckoned: the contract. -/
import Derived.Test.YtjhcamnmfjkidaaGreatKRRun
import Derived.Test.YtjhcamnmfjkidaaGreatKRNode
import Derived.Test.YtjhcamnmfjkidaaGreatKRGlob
import Derived.Test.YtjhcamnmfjkidaaGreatKC04c
import Derived.Test.YtjhcamnmfjkidaaGreatKP09d
import Derived.Test.YtjhcamnmfjkidaaGreatKP09b
import Derived.Test.YtjhcamnmfjkidaaGreatKP09o
set_option linter.all false
namespace Go.Rad
open Go
variable {P : Program} {L : Lay}
theorem quiet_ok : Quiet P := fun f args v sto h1 h2 h3 h4 => ACall.alone (ACall.none h4) (map_self fun x hx => tr_flat (List.all_eq_true.1 h1 x hx)) (bk_flat h2) h3
/-- Rows that a result holds are given away. -/
def finCells : AVal → List AVal
  | .tup vs => vs
  | v => [v]
def xFin : Nat → AVal → Sto → Option AVal
  | 0, v, _ => some v
  | k + 1, v, s =>
    match firstOsl (finCells v) with
    | none => some v
    | some id =>
      match sget s id with
      | some (g, .row _ l) => req (okFs id g l.length v && okFS id g l.length (sdel s id)) (xFin k (rf id g l v) (rfS id g l (sdel s id)))
      | _ => none
theorem fin_post {E : Gh} {R : AVal → Prop} {e : Ending} {w' : World} {r : Nat → Nat} : ∀ (k : Nat) {v v' : AVal} {s : Sto}, xFin k v s = some v' → R (mg r v') → Post E (fun v1 s1 => v1 = mg r v ∧ s1 = mgS r s) e w' → Post E (fun v1 _ => R v1) e w'
  | 0, v, v', s, h, hR, hp => by
    simp only [xFin, Option.some.injEq] at h; subst h
    exact hp.mono (.refl E) fun _ _ hx => by rw [hx.1]; exact hR
  | k + 1, v, v', s, h, hR, ⟨G', cr, r1, s1, h1, h2, h3, h4, h5, h6, h7⟩ => by
    simp only [xFin] at h
    split at h
    · cases h; exact ⟨G', cr, r1, s1, h1, h2, h3, h4, h5, by rw [h6]; exact hR⟩
    · split at h
      · rename_i g esz l hg
        simp only [req_iff, Bool.and_eq_true] at h
        obtain ⟨⟨hk1, hk2⟩, h⟩ := h
        subst h6 h7
        obtain ⟨G2, q1, q2, q3, q4⟩ := all_freeze (g := r g) (esz := esz) (l := l) h3 h4 (by rw [sget_mgS, hg]; rfl)
        refine fin_post k h hR ⟨G2, cr, _, _, h1, h2.trans q1, q2, q3, q4 _ _ h5, rf_mg hk1, ?_⟩
        rw [← sdel_mgS, ← rfS_mg _ hk2]
      · cases h
def rowIds : Sto → List Nat
  | [] => []
  | (i, _, .row _ _) :: s => i :: rowIds s
  | _ :: s => rowIds s
theorem sfilt_mg {r : Nat → Nat} {keep : List Nat} : ∀ s : Sto, mgS r (sfilt keep s) = sfilt keep (mgS r s)
  | [] => rfl
  | (i, g, o) :: s => by
    have ih := sfilt_mg (r := r) (keep := keep) s
    simp only [sf_cons, mgS]
    split
    · simp only [mgS, ih]
    · exact ih
/-- A closed call that is reckoned, and tells a thing that leads nowhere. -/
def ran (x : Option (AVal × Sto × Nat)) : Option AVal := x.bind fun x => (xFin 4 x.1 (sfilt (rowIds x.2.1) x.2.1)).bind fun v => req (flat v) (some v)
theorem run_c (hL : LOk P L) (hm : P.follows .mixedOrders = true) (hn : (P.funcs.all fun fn => !(fn.name == "runtime.NumGoroutine")) = true) (tab : Nat → Tab) {kn : Known1} (hkn : KnOk P kn) (fs : List Nat) (hfs : fs.all (fnOk P L tab) = true) (fuel k : Nat) {f : Nat} {args : List AVal} {v : AVal} (ha : args.all flat = true) (h : ran (xCall P L tab kn fuel fs k false f args [] 1000) = some v) :
    ACall P f args [] fun r s => r = v ∧ s = [] := by
  simp only [ran, Option.bind_eq_some_iff, req_iff, Option.some.injEq] at h
  obtain ⟨⟨u, s, n⟩, h1, u', h2, h3, rfl⟩ := h
  have h4 := (xCall_ok hL hm hn quiet_ok hkn hfs k false f args [] 1000 _ _ _ h1).2.2 id
  rw [map_self fun x hx => mg_id (flat_bd (List.all_eq_true.1 ha x hx))] at h4
  refine ACall.none ⟨h4.able, fun G w cargs a b c => (h4.calls G w cargs a b c).mono fun e w' p => ?_⟩
  obtain ⟨G', cr, r1, s1, x1, x2, x3, x4, x5, r', _, rfl, rfl⟩ := p
  exact fin_post (R := fun r => r = u') 4 h2 (mg_id (flat_bd h3)) ⟨G', cr, _, _, x1, x2, x3, sto_filt (rowIds s) x4, x5, rfl, (sfilt_mg s).symm⟩
end Go.Rad
/- What the run of closed calls must know of each function. -/
namespace Go.Rad
open Go
def rtabs : List Tab := [
  ⟨[], []⟩,
  ⟨[], []⟩,
  ⟨[], []⟩,
  ⟨[0, 2, 3, 4, 5, 6], []⟩,
  ⟨[0, 2, 3, 4, 5, 6, 7, 9, 11, 12, 14, 16, 26, 40, 41, 42, 43, 48, 49, 50, 51, 52, 57, 71, 73, 74, 75, 76, 89, 93, 94, 95, 96, 118], [(31, ⟨20, [0, 1, 2, 3, 4, 5, 6, 7, 8, 9, 10, 11, 12, 13, 14, 15, 16, 17, 18, 19], [], [], [], []⟩)]⟩,
  ⟨[0, 2, 3, 4, 5, 6, 7, 8, 10, 17, 19, 20, 21, 22, 34, 35, 36, 37, 49], []⟩,
  ⟨[0, 2, 3, 4, 5, 6, 7, 8, 9, 19], []⟩,
  ⟨[0, 2, 3, 4, 5, 6, 7, 8, 9, 12, 17, 25, 33, 59, 78], [(13, ⟨12, [0, 1, 2, 3, 4, 5, 6, 7, 8, 9, 10, 11, 12, 13, 14], [], [], [], []⟩), (18, ⟨11, [0, 1, 2, 3, 4, 5, 6, 7, 8, 9, 10, 11], [], [], [], []⟩)]⟩,
  ⟨[0, 1, 2, 3, 4], []⟩,
  ⟨[0, 1, 2, 3, 4, 5, 6, 7, 22, 27, 80], []⟩,
  ⟨[0, 2, 3, 4, 7, 11, 36], []⟩,
  ⟨[0, 1, 2, 15], []⟩,
  ⟨[0, 1, 4], []⟩,
  ⟨[0, 2], []⟩,
  ⟨[0, 2, 4, 7, 8, 9, 10, 11, 42], []⟩,
  ⟨[0, 1, 2, 6, 7, 9, 10, 11, 12, 13, 15, 17, 21, 22, 23, 24, 34, 45, 46, 47, 48, 53, 54, 55, 56, 72, 80, 100, 104, 132, 154, 163, 164, 165, 166], [(23, ⟨17, [0, 1, 2, 3, 4, 5, 6, 7, 8, 9, 10, 11, 12, 13, 14, 15, 16, 17, 18, 19], [], [], [], []⟩), (34, ⟨11, [0, 1, 2, 3, 4, 5, 6, 7, 8, 9, 10, 11, 12, 13], [], [], [], []⟩), (15, ⟨10, [0, 1, 2, 3, 4, 5, 6, 7, 8, 9, 10, 11, 12], [], [], [], []⟩)]⟩,
  ⟨[0, 1, 4, 5], []⟩,
  ⟨[0, 1, 2, 3, 8, 9, 10, 11, 12, 13, 20, 24, 38, 59, 76, 87, 120], [(7, ⟨15, [0, 1, 2, 3, 4, 5, 6, 7, 8, 9, 10, 11, 12, 13, 14, 15, 16], [], [], [], []⟩), (20, ⟨7, [0, 1, 2, 3, 4, 5, 6, 7, 8, 9], [], [], [], []⟩), (21, ⟨7, [0, 1, 2, 3, 4, 5, 6, 7, 8, 9], [], [], [], []⟩)]⟩,
  ⟨[0, 1, 4, 5, 6, 7, 17, 38, 62], [(5, ⟨21, [0, 1, 2, 3, 4, 5, 6, 7, 8, 9, 10, 11, 12, 13, 14, 15, 16, 17, 18, 19, 20], [], [], [], []⟩), (8, ⟨15, [0, 1, 2, 3, 4, 5, 6, 7, 8, 9, 10, 11, 12, 13, 14], [], [], [], []⟩)]⟩,
  ⟨[0, 1, 4, 5, 8], []⟩,
  ⟨[0, 2], []⟩,
  ⟨[0, 2, 3, 4, 9], [(5, ⟨6, [0, 1, 2, 3, 4, 5, 6], [], [], [], []⟩)]⟩,
  ⟨[0, 1, 4, 5, 10, 14, 25], [(6, ⟨9, [0, 1, 2, 3, 4, 5, 6, 7, 8], [], [], [], []⟩)]⟩,
  ⟨[0, 2, 3, 7, 15], []⟩,
  ⟨[0, 1, 3, 4], []⟩,
  ⟨[0, 1, 4, 5, 7, 8, 9, 10, 11, 21], []⟩,
  ⟨[0, 1, 4], []⟩,
  ⟨[0, 1, 2, 3], []⟩,
  ⟨[0, 1, 2, 4], []⟩,
  ⟨[0, 1, 4, 5, 7, 8, 9, 16], []⟩,
  ⟨[0, 2, 4], []⟩,
  ⟨[0, 1, 2], []⟩,
  ⟨[0, 1, 3, 4, 5], [(2, ⟨7, [0, 1, 2, 3, 4, 5, 6, 7, 8, 9, 10], [18], [], [], []⟩)]⟩,
  ⟨[0, 1, 2, 7, 8, 9, 10, 11], [(3, ⟨14, [0, 1, 2, 3, 4, 5, 6, 7, 8, 9, 10, 11, 12, 13, 14, 15, 16, 17], [], [], [0], [16]⟩)]⟩,
  ⟨[0, 1, 2, 4, 5, 6, 7, 26, 34], []⟩,
  ⟨[0, 1, 2, 3, 4], [(1, ⟨14, [0, 1, 2, 3, 4, 5, 6, 7, 8, 9, 11, 12, 13, 14, 10, 15, 16, 17], [], [], [2, 3], [16, 18]⟩)]⟩,
  ⟨[0, 2, 3, 5, 6, 8, 9, 10, 11, 12, 20, 25, 26, 27, 28], []⟩,
  ⟨[0, 2], []⟩,
  ⟨[0, 2, 3, 4, 5, 8, 13, 25, 32, 44], [(6, ⟨10, [0, 1, 2, 3, 4, 5, 6, 7, 8, 9], [], [], [], []⟩), (11, ⟨10, [0, 1, 2, 3, 4, 5, 6, 7, 8, 9], [], [], [], []⟩)]⟩,
  ⟨[0, 1, 3, 4, 5], [(1, ⟨7, [0, 1, 2, 3, 4, 5, 6, 7, 8, 9, 10], [12], [], [], []⟩)]⟩,
  ⟨[0, 1, 4, 5, 6, 7, 12, 26, 34], []⟩,
  ⟨[0, 1, 2, 6, 10], [(3, ⟨20, [0, 1, 2, 3, 4, 5, 6, 7, 8, 9, 10, 11, 12, 13, 14, 15, 16, 17, 18, 19, 20, 21, 22, 23], [], [], [0, 1], [15, 19]⟩)]⟩,
  ⟨[0, 2, 3, 4, 5, 8, 16, 27, 41], [(8, ⟨11, [0, 1, 2, 3, 4, 5, 6, 7, 8, 9, 10], [], [], [], []⟩)]⟩,
  ⟨[0, 1, 4, 5, 6, 17, 38], []⟩,
  ⟨[0, 1, 2, 4, 8], []⟩,
  ⟨[0, 2, 3, 4, 5, 6, 14, 18, 26, 43, 47, 55], []⟩,
  ⟨[0, 1, 4, 5, 7, 8, 9, 16], []⟩,
  ⟨[0, 1, 4, 5, 6, 8, 10, 18, 23, 24, 25, 26, 45], [(7, ⟨8, [0, 1, 2, 3, 4, 5, 6, 7, 8], [], [], [], []⟩)]⟩,
  ⟨[0, 1, 4, 6, 16], []⟩,
  ⟨[0, 1, 2, 3, 8, 9, 10, 11, 12, 13, 14, 15, 16, 17, 18, 23, 29, 35, 50, 68, 72, 87, 113], [(17, ⟨12, [0, 1, 2, 3, 4, 5, 6, 7, 8, 9, 10, 11, 12, 13, 14], [], [], [], []⟩)]⟩,
  ⟨[0, 2], []⟩,
  ⟨[0, 2, 3, 21, 43], [(2, ⟨15, [0, 1, 2, 3, 4, 5, 6, 7, 8, 9, 10, 11, 12, 13, 14], [], [], [], []⟩)]⟩,
  ⟨[0, 2], [(1, ⟨18, [0, 1, 2, 3, 4, 5, 6, 7, 8, 9, 10, 11, 12, 13, 14, 15, 16, 17], [], [], [], []⟩)]⟩,
  ⟨[0, 1, 2, 10], []⟩,
  ⟨[0, 1, 4, 5, 6, 7, 18, 21, 29], []⟩,
  ⟨[0, 1, 2, 4], []⟩,
  ⟨[0, 1, 2, 3, 4, 5, 6, 23, 24, 42, 59, 78, 125], []⟩,
  ⟨[0, 1, 2, 6, 7, 8, 9, 10, 11, 16, 25, 42, 52], []⟩,
  ⟨[0, 2, 3, 4, 5, 6, 14, 15, 16, 17, 18, 32, 45], [(10, ⟨7, [0, 1, 2, 3, 4, 5, 6], [], [], [], []⟩)]⟩,
  ⟨[0, 2, 3, 5, 7, 8, 9, 10, 28], []⟩,
  ⟨[0, 1, 4, 5, 6, 7, 8, 9, 13, 14, 15, 16, 22, 44], []⟩,
  ⟨[0, 1, 2, 6, 7, 12, 30], [(4, ⟨13, [0, 1, 2, 3, 4, 5, 6, 7, 8, 9, 10, 11, 12, 13, 14], [], [], [], []⟩), (6, ⟨15, [0, 1, 2, 3, 4, 5, 6, 7, 8, 9, 10, 11, 12, 13, 14, 15, 16, 17], [], [], [], []⟩)]⟩,
  ⟨[0, 1, 2, 6, 7, 8, 9, 10, 19, 30], [(10, ⟨17, [0, 1, 2, 3, 4, 5, 6, 7, 8, 9, 10, 11, 12, 13, 14, 15, 16, 17, 18, 19], [], [], [], []⟩)]⟩,
  ⟨[0, 1, 2, 6, 7, 8, 9, 10, 15, 33, 43], [(10, ⟨17, [0, 1, 2, 3, 4, 5, 6, 7, 8, 9, 10, 11, 12, 13, 14, 15, 16, 17, 18, 19], [], [], [], []⟩)]⟩,
  ⟨[0, 1, 2, 6, 7, 8, 9, 10, 11, 12, 32, 34, 49, 51, 54], []⟩,
  ⟨[0, 1, 2, 6, 7, 13], [(3, ⟨13, [0, 1, 2, 3, 4, 5, 6, 7, 8, 9, 10, 11, 12, 13, 14, 15], [], [], [], []⟩)]⟩,
  ⟨[0, 1, 2, 6, 7, 8, 9, 10, 14, 32, 37, 41, 61, 65, 78, 98, 103, 116], [(5, ⟨13, [0, 1, 2, 3, 4, 5, 6, 7, 8, 9, 10, 11, 12, 13, 14, 15], [], [], [], []⟩), (11, ⟨15, [0, 1, 2, 3, 4, 5, 6, 7, 8, 9, 10, 11, 12, 13, 14, 15, 16, 17], [], [], [], []⟩), (16, ⟨9, [0, 1, 2, 3, 4, 5, 6, 7, 8, 9, 10], [], [], [], []⟩), (17, ⟨15, [0, 1, 2, 3, 4, 5, 6, 7, 8, 9, 10, 11, 12, 13, 14, 15, 16, 17], [], [], [], []⟩), (22, ⟨9, [0, 1, 2, 3, 4, 5, 6, 7, 8, 9, 10], [], [], [], []⟩), (23, ⟨15, [0, 1, 2, 3, 4, 5, 6, 7, 8, 9, 10, 11, 12, 13, 14, 15, 16, 17], [], [], [], []⟩)]⟩,
  ⟨[0, 1, 4], []⟩,
  ⟨[0, 1, 2, 3, 8, 9, 10, 43, 59, 64], [(1, ⟨13, [0, 1, 2, 3, 4, 5, 6, 7, 8, 9, 10, 11, 12, 13, 14, 15], [], [], [], []⟩), (3, ⟨12, [0, 1, 2, 3, 4, 5, 6, 7, 8, 9, 10, 11, 12, 13, 14], [], [], [], []⟩), (5, ⟨12, [0, 1, 2, 3, 4, 5, 6, 7, 8, 9, 10, 11, 12, 13], [], [], [], []⟩), (8, ⟨13, [0, 1, 2, 3, 4, 5, 6, 7, 8, 9, 10, 11, 12, 13, 14, 15], [], [], [], []⟩)]⟩,
  ⟨[0, 1, 2, 3, 8, 9, 10, 11, 43, 60, 65, 112, 129, 134], [(1, ⟨13, [0, 1, 2, 3, 4, 5, 6, 7, 8, 9, 10, 11, 12, 13, 14, 15], [], [], [], []⟩), (3, ⟨12, [0, 1, 2, 3, 4, 5, 6, 7, 8, 9, 10, 11, 12, 13], [], [], [], []⟩), (5, ⟨12, [0, 1, 2, 3, 4, 5, 6, 7, 8, 9, 10, 11, 12, 13, 14], [], [], [], []⟩), (8, ⟨13, [0, 1, 2, 3, 4, 5, 6, 7, 8, 9, 10, 11, 12, 13, 14, 15], [], [], [], []⟩), (10, ⟨13, [0, 1, 2, 3, 4, 5, 6, 7, 8, 9, 10, 11, 12, 13, 14, 15], [], [], [], []⟩), (13, ⟨12, [0, 1, 2, 3, 4, 5, 6, 7, 8, 9, 10, 11, 12, 13], [], [], [], []⟩), (15, ⟨12, [0, 1, 2, 3, 4, 5, 6, 7, 8, 9, 10, 11, 12, 13, 14], [], [], [], []⟩), (18, ⟨13, [0, 1, 2, 3, 4, 5, 6, 7, 8, 9, 10, 11, 12, 13, 14, 15], [], [], [], []⟩), (21, ⟨13, [0, 1, 2, 3, 4, 5, 6, 7, 8, 9, 10, 11, 12, 13, 14, 15], [], [], [], []⟩)]⟩,
  ⟨[0, 2, 4, 8], []⟩,
  ⟨[0, 2, 4, 8, 14], []⟩,
  ⟨[0, 2, 3, 30, 40, 43, 49], [(2, ⟨27, [0, 1, 2, 3, 4, 5, 6, 7, 8, 9, 10, 11, 12, 13, 14, 15, 16, 17, 18, 19, 20, 21, 22, 23, 24, 25, 26], [], [], [], []⟩)]⟩,
  ⟨[0, 1, 3, 4], [(1, ⟨7, [0, 1, 2, 3, 4, 5, 6, 7, 8, 9, 10], [11], [], [], []⟩)]⟩,
  ⟨[0, 1, 3, 4, 5, 6, 7, 8, 9, 10, 11, 12, 13, 36, 39, 58, 85, 116, 127, 138], [(3, ⟨10, [0, 1, 2, 3, 4, 5, 6, 7, 8, 9], [], [], [], []⟩), (12, ⟨20, [0, 1, 2, 3, 4, 5, 6, 7, 8, 9, 10, 11, 12, 13, 14, 15, 16, 17, 18, 19], [], [], [], []⟩)]⟩,
  ⟨[0, 1, 3, 4, 10], [(4, ⟨7, [0, 1, 2, 3, 4, 5, 6, 7, 8, 9, 10], [20], [], [], []⟩)]⟩,
  ⟨[0, 2, 3, 7, 25], []⟩,
  ⟨[0, 1, 2, 3, 4, 12, 13, 21, 22, 55, 58, 62, 63, 71, 72], [(10, ⟨5, [0, 1, 2, 3, 4, 5, 6, 7], [], [], [1], [26]⟩)]⟩,
  ⟨[0, 1, 4, 5, 10, 12, 13, 14, 24], [(6, ⟨9, [0, 1, 2, 3, 4, 5, 6, 7, 8], [], [], [], []⟩)]⟩,
  ⟨[0, 2, 3, 5, 6, 7, 24], []⟩,
  ⟨[0, 1, 4, 5, 6, 7, 17, 20], []⟩,
  ⟨[0, 1, 2, 4, 6, 7, 8, 9, 15, 21, 22, 23, 24], [(7, ⟨8, [0, 1, 2, 3, 4, 5, 6, 7, 8], [], [], [], []⟩), (9, ⟨7, [0, 1, 2, 3, 4, 5, 6, 7, 8, 9, 10], [43], [], [], []⟩)]⟩,
  ⟨[0, 1, 2, 3, 8, 9, 16, 36, 52], [(3, ⟨18, [0, 1, 2, 3, 4, 5, 6, 7, 8, 9, 10, 11, 12, 13, 14, 15, 16, 17, 18, 19], [], [], [], []⟩), (5, ⟨12, [0, 1, 2, 3, 4, 5, 6, 7, 8, 9, 10, 11, 12, 13], [], [], [], []⟩), (6, ⟨21, [0, 1, 2, 3, 4, 5, 6, 7, 8, 9, 10, 11, 12, 13, 14, 15, 16, 17, 18, 19, 20, 21, 22, 23], [], [], [], []⟩)]⟩,
  ⟨[0, 2], []⟩,
  ⟨[0, 2], [(1, ⟨9, [0, 1, 2, 3, 4, 5, 6, 7, 8, 9], [], [], [], []⟩), (2, ⟨9, [0, 1, 2, 3, 4, 5, 6, 7, 8, 9], [], [], [], []⟩), (3, ⟨9, [0, 1, 2, 3, 4, 5, 6, 7, 8, 9], [], [], [], []⟩)]⟩,
  ⟨[0, 1, 2, 6], []⟩,
  ⟨[0, 1, 2, 3, 4, 10], []⟩,
  ⟨[0, 2], []⟩,
  ⟨[0, 2, 3, 4, 5, 6, 11, 22, 32, 42, 52, 90], [(4, ⟨10, [0, 1, 2, 3, 4, 5, 6, 7, 8, 9], [], [], [], []⟩), (14, ⟨29, [0, 1, 2, 3, 4, 5, 6, 7, 8, 9, 10, 11, 12, 13, 14, 15, 16, 17, 18, 19, 20, 21, 22, 23, 24, 25, 26, 27, 28], [], [], [], []⟩)]⟩,
  ⟨[0, 1, 4, 5], []⟩,
  ⟨[0, 1, 2, 6, 7, 8, 9, 16, 28], []⟩,
  ⟨[0, 1, 4, 7], []⟩,
  ⟨[0, 2], []⟩,
  ⟨[0, 2], []⟩,
  ⟨[0, 2], []⟩,
  ⟨[0, 2], []⟩,
  ⟨[0, 2, 4], []⟩,
  ⟨[0, 1, 2, 3, 8, 9, 18], [(1, ⟨8, [0, 1, 2, 3, 4, 5, 6, 7, 8], [], [], [], []⟩)]⟩,
  ⟨[0, 2, 3, 4, 14, 19, 24, 40, 72, 85, 105], [(1, ⟨10, [0, 1, 2, 3, 4, 5, 6, 7, 8, 9], [], [], [], []⟩), (9, ⟨30, [0, 1, 2, 3, 4, 5, 6, 7, 8, 9, 10, 11, 12, 13, 14, 15, 16, 17, 18, 19, 20, 21, 22, 23, 24, 25, 26, 27, 28, 29], [], [], [], []⟩)]⟩,
  ⟨[0, 2, 3, 4, 5, 6, 35, 57, 61, 63, 80, 116], [(5, ⟨15, [0, 1, 2, 3, 4, 5, 6, 7, 8, 9, 10, 11, 12, 13, 14], [], [], [], []⟩), (8, ⟨15, [0, 1, 2, 3, 4, 5, 6, 7, 8, 9, 10, 11, 12, 13, 14], [], [], [], []⟩), (15, ⟨10, [0, 1, 2, 3, 4, 5, 6, 7, 8, 9], [], [], [], []⟩)]⟩,
  ⟨[0, 2, 3, 8, 39], []⟩,
  ⟨[0, 2, 3, 4, 5, 6, 7, 8, 31, 65, 83, 99, 113, 116, 121], [(2, ⟨16, [0, 1, 2, 3, 4, 5, 6, 7, 8, 9, 10, 11, 12, 13, 14, 15], [], [], [], []⟩), (6, ⟨26, [0, 1, 2, 3, 4, 5, 6, 7, 8, 9, 10, 11, 12, 13, 14, 15, 16, 17, 18, 19, 20, 21, 22, 23, 24, 25], [], [], [], []⟩), (9, ⟨15, [0, 1, 2, 3, 4, 5, 6, 7, 8, 9, 10, 11, 12, 13, 14], [], [], [], []⟩)]⟩,
  ⟨[0, 1, 2, 3, 4, 7, 14], []⟩,
  ⟨[0, 2, 3, 29, 38, 57], [(3, ⟨15, [0, 1, 2, 3, 4, 5, 6, 7, 8, 9, 10, 11, 12, 13, 14], [], [], [], []⟩), (8, ⟨12, [0, 1, 2, 3, 4, 5, 6, 7, 8, 9, 10, 11], [], [], [], []⟩), (12, ⟨13, [0, 1, 2, 3, 4, 5, 6, 7, 8, 9, 10, 11, 12, 13, 14], [], [], [], []⟩)]⟩,
  ⟨[0, 1, 4, 5, 9, 16], []⟩,
  ⟨[0], []⟩,
  ⟨[0, 2, 3, 4, 5, 6, 7, 29, 32, 56, 59, 62, 65, 78, 120, 126], [(1, ⟨10, [0, 1, 2, 3, 4, 5, 6, 7, 8, 9], [], [], [], []⟩), (9, ⟨10, [0, 1, 2, 3, 4, 5, 6, 7, 8, 9], [], [], [], []⟩), (18, ⟨11, [0, 1, 2, 3, 4, 5, 6, 7, 8, 9, 10], [], [], [], []⟩), (21, ⟨11, [0, 1, 2, 3, 4, 5, 6, 7, 8, 9, 10], [], [], [], []⟩), (22, ⟨12, [0, 1, 2, 3, 4, 5, 6, 7, 8, 9, 10, 11], [], [], [], []⟩)]⟩,
  ⟨[0, 2, 3, 4, 23, 70], [(3, ⟨15, [0, 1, 2, 3, 4, 5, 6, 7, 8, 9, 10, 11, 12, 13, 14], [], [], [], []⟩), (4, ⟨16, [0, 1, 2, 3, 4, 5, 6, 7, 8, 9, 10, 11, 12, 13, 14, 15], [], [], [], []⟩)]⟩,
  ⟨[0, 2, 4, 21], [(4, ⟨10, [0, 1, 2, 3, 4, 5, 6, 7, 8, 9], [], [], [], []⟩)]⟩,
  ⟨[0, 1, 4, 5, 6, 13], []⟩,
  ⟨[0, 2, 3, 4, 5, 8, 14, 23], []⟩,
  ⟨[0, 2, 4, 13], []⟩,
  ⟨[], []⟩,
  ⟨[], []⟩,
  ⟨[], []⟩,
  ⟨[], []⟩,
  ⟨[], []⟩,
  ⟨[], []⟩,
  ⟨[], []⟩,
  ⟨[], []⟩,
  ⟨[], []⟩,
  ⟨[], []⟩,
  ⟨[], []⟩,
  ⟨[], []⟩,
  ⟨[], []⟩,
  ⟨[], []⟩,
  ⟨[], []⟩,
  ⟨[], []⟩]
def rtab : Nat → Tab := fun f => rtabs.getD f ⟨[], []⟩
theorem no_num : (Go.Proofs.Tryz.prog.funcs.all fun fn => !(fn.name == "runtime.NumGoroutine")) = true := by decide +kernel
theorem kn_none : KnOk Go.Proofs.Tryz.prog (fun _ => none) := fun _ _ _ _ h => by cases h
theorem ran_c {kn : Known1} (hkn : KnOk Go.Proofs.Tryz.prog kn) (fs : List Nat) (hfs : fs.all (fnOk Go.Proofs.Tryz.prog LL rtab) = true) (fuel k : Nat) {f : Nat} {args : List AVal} {v : AVal} (ha : args.all flat = true) (h : ran (xCall Go.Proofs.Tryz.prog LL rtab kn fuel fs k false f args [] 1000) = some v) : ACall Go.Proofs.Tryz.prog f args [] fun r s => r = v ∧ s = [] := run_c LL_ok mixed no_num rtab hkn fs hfs fuel k ha h
end Go.Rad
/- What is known of some calls by their contracts, for the run of closed calls. -/
namespace Go.Rad
open Go Go.Proofs
def kIn : List AVal → Option AVal
  | [.int .u8 c, .str l] => req (decide (0 ≤ c) && Nat.ble l.size 1000000) (some (.bool (inS c.toNat l)))
  | _ => none
def decB : List (List AVal) → Option (List Nat)
  | [] => some []
  | [.int .u8 n] :: l => req (decide (0 ≤ n) && decide (n ≤ 255)) ((decB l).map (n.toNat :: ·))
  | _ => none
theorem decB_ok : ∀ {l : List (List AVal)} {bs : List Nat}, decB l = some bs → l = bytesL bs ∧ ∀ x ∈ bs, x ≤ 255
  | [], bs, h => by cases h; exact ⟨rfl, fun _ h => by cases h⟩
  | x :: l, bs, h => by
    unfold decB at h
    split at h
    · rename_i h1; cases h1
    · rename_i n l' h1
      cases h1
      simp only [req_iff, Bool.and_eq_true, decide_eq_true_eq] at h
      obtain ⟨⟨h1, h2⟩, h⟩ := h
      obtain ⟨bs', h3, rfl⟩ := mp_some h
      obtain ⟨h4, h5⟩ := decB_ok h3
      refine ⟨?_, fun x hx => ?_⟩
      · rw [h4]; simp only [bytesL, List.map_cons]; rw [Int.toNat_of_nonneg h1]
      · rcases List.mem_cons.1 hx with rfl | hx
        · omega
        · exact h5 x hx
    · cases h
def decS : List (List AVal) → Option (List ISet)
  | [] => some []
  | [.int .u64 a, .int .u64 b, .int .u64 c, .int .u64 d] :: l => (decS l).map (⟨a, b, c, d⟩ :: ·)
  | _ => none
theorem decS_ok : ∀ {l : List (List AVal)} {ss : List ISet}, decS l = some ss → l = sets ss
  | [], bs, h => by cases h; rfl
  | x :: l, bs, h => by
    unfold decS at h
    split at h
    · rename_i h1; cases h1
    · rename_i a b c d l' h1
      cases h1
      obtain ⟨bs', h3, rfl⟩ := mp_some h
      rw [decS_ok h3]; rfl
    · cases h
def kOf : List AVal → Option AVal
  | [.sl _ _ l] => (decB l).bind fun bs => req (Nat.ble bs.length 1000000) (some (.agg (bs.foldl withI ISet.none).cells))
  | _ => none
def kRange : List AVal → Option AVal
  | [.int .u8 lo, .int .u8 hi] => req (decide (0 ≤ lo) && decide (lo ≤ 255) && decide (0 ≤ hi) && decide (hi ≤ 255)) (some (.agg (rangeI lo.toNat hi.toNat).cells))
  | _ => none
def kOr : List AVal → Option AVal
  | [.sl _ _ l] => (decS l).bind fun ss => req (Nat.ble ss.length 1000000) (some (.agg (orI ss).cells))
  | _ => none
def kNot : List AVal → Option AVal
  | [.agg [.int .u64 a, .int .u64 b, .int .u64 c, .int .u64 d]] => some (.agg (notI ⟨a, b, c, d⟩).cells)
  | _ => none
def kName : List AVal → Option AVal
  | [.str s] => req (Nat.ble s.size maxLen) (some (.bool (nameOk s)))
  | _ => none
/-- One function's calls, and what else is known. -/
def kAdd (f0 : Nat) (g : List AVal → Option AVal) (kn : Known1) : Known1 := fun f => match Nat.beq f f0 with | true => some g | false => kn f
theorem kAdd_ok {f0 : Nat} {g : List AVal → Option AVal} {kn : Known1} (h : ∀ args v, g args = some v → ACall Tryz.prog f0 args [] fun r s => r = v ∧ s = []) (hk : KnOk Tryz.prog kn) : KnOk Tryz.prog (kAdd f0 g kn) := by
  intro f g' args v hg hv
  unfold kAdd at hg
  split at hg
  · rename_i e; cases hg; rw [Nat.eq_of_beq_eq_true e]; exact h args v hv
  · exact hk f g' args v hg hv
def kn4 : Known1 := kAdd 104 kIn (kAdd 21 kOf (kAdd 109 kRange (kAdd 110 kOr (kAdd 102 kNot (kAdd 76 kName fun _ => none)))))
theorem kn4uok : KnOk Tryz.prog kn4 := by
  refine kAdd_ok (fun args v h => ?_) (kAdd_ok (fun args v h => ?_) (kAdd_ok (fun args v h => ?_) (kAdd_ok (fun args v h => ?_) (kAdd_ok (fun args v h => ?_) (kAdd_ok (fun args v h => ?_) kn_none)))))
  · unfold kIn at h
    split at h
    · rename_i c l
      simp only [req_iff, Bool.and_eq_true, decide_eq_true_eq, Nat.ble_eq, Option.some.injEq] at h
      obtain ⟨⟨h1, h2⟩, rfl⟩ := h
      have := in4uc c.toNat l h2
      rwa [Int.toNat_of_nonneg h1] at this
    · cases h
  · unfold kOf at h
    split at h
    · simp only [Option.bind_eq_some_iff, req_iff, Nat.ble_eq, Option.some.injEq] at h
      obtain ⟨bs, h1, h2, rfl⟩ := h
      obtain ⟨rfl, h3⟩ := decB_ok h1
      exact of_c _ _ bs h3 h2
    · cases h
  · unfold kRange at h
    split at h
    · rename_i lo hi
      simp only [req_iff, Bool.and_eq_true, decide_eq_true_eq, Option.some.injEq] at h
      obtain ⟨⟨⟨⟨h1, h2⟩, h3⟩, h4⟩, rfl⟩ := h
      have := range_c lo.toNat hi.toNat (by omega) (by omega)
      rwa [Int.toNat_of_nonneg h1, Int.toNat_of_nonneg h3] at this
    · cases h
  · unfold kOr at h
    split at h
    · simp only [Option.bind_eq_some_iff, req_iff, Nat.ble_eq, Option.some.injEq] at h
      obtain ⟨ss, h1, h2, rfl⟩ := h
      rw [decS_ok h1]
      exact or_c _ _ ss h2
    · cases h
  · unfold kNot at h
    split at h
    · cases h; exact not_c _ _ _ _
    · cases h
  · unfold kName at h
    split at h
    · simp only [req_iff, Nat.ble_eq, Option.some.injEq] at h
      obtain ⟨h1, rfl⟩ := h
      exact name4uc _ h1
    · cases h
/-- The reader of the document. -/
def fsR : List Nat := [42, 51, 52, 53, 72, 73, 88, 98, 99, 100, 101, 103, 106, 107, 108, 105, 93, 111]
theorem fsR_ok : fsR.all (fnOk Tryz.prog LL rtab) = true := by decide +kernel
theorem parse_run {s : ByteArray} {v : AVal} (h : ran (xCall Tryz.prog LL rtab kn4 10000 fsR 60 false 42 [.str s] [] 1000) = some v) : ACall Tryz.prog 42 [.str s] [] fun r s => r = v ∧ s = [] := ran_c kn4uok fsR fsR_ok _ _ rfl h
end Go.Rad
/- The head of the statements of layer 9. -/
namespace Go.Rad
open Go Go.Proofs
set_option linter.all false
set_option maxRecDepth 20000
set_option maxHeartbeats 4000000

/-- A pair of lists and a number, the lists' flags forgotten. -/
theorem rep_pair {G : Gh} {o : Bool} {b1 b2 : Bool} {x y : List (List AVal)} {e : AVal} {v : Value} (h : Rep G o (.tup [.agg [.sl true b1 x, .sl true b2 y], e]) v) : Rep G o (.tup [.agg [.sl true false x, .sl true false y], e]) v := by
  cases h with
  | tup a c =>
    refine .tup a fun j z hz => ?_
    match j, hz with
    | 0, hz =>
      simp only [List.getElem?_cons_zero, Option.some.injEq] at hz
      subst hz
      have h0 := c 0 _ rfl
      generalize Array.getD _ 0 undef = u at h0
      cases h0 with
      | agg a2 b2 c2 =>
        refine .agg a2 ?_ ?_
        · intro j x hx
          match j, hx with
          | 0, hx => simp only [List.getElem?_cons_zero, Option.some.injEq] at hx; subst hx; rfl
          | 1, hx => simp only [List.getElem?_cons_succ, List.getElem?_cons_zero, Option.some.injEq] at hx; subst hx; rfl
        · intro j x hx
          match j, hx with
          | 0, hx => simp only [List.getElem?_cons_zero, Option.some.injEq] at hx; subst hx; exact rep_unfull (c2 0 _ rfl)
          | 1, hx => simp only [List.getElem?_cons_succ, List.getElem?_cons_zero, Option.some.injEq] at hx; subst hx; exact rep_unfull (c2 1 _ rfl)
    | 1, hz => exact c 1 _ hz
theorem of9F_c (f : Bool) (ls : List (List Node)) (hll : ls.length ≤ 1000000) (hnd : ∀ x ∈ ls, ndOk x) :
    ACall Tryz.prog 5 [.sl true f (trees ls)] [] fun r s => r = .tup [.agg [.sl true false (ints (ofG ls).1), .sl true false (poss (ofG ls).2.1)], .int .i64 (ofG ls).2.2] ∧ s = [] := by
  refine (of9uc f ls hll hnd).post fun G w r s v hw hs hr hR => ?_
  obtain ⟨⟨b1, b2, rfl⟩, rfl⟩ := hR
  exact ⟨G, _, _, .refl G, hw, hs, rep_pair hr, rfl, rfl⟩
abbrev byte9 (b : Int) : Node := ⟨2, ⟨0, b, 0, 0⟩, [], 0, 0, ByteArray.empty⟩
abbrev t9a : List Node := [byte9 8589934592, byte9 17179869184, ⟨5, ISet.none, [1], 0, -1, ByteArray.empty⟩, ⟨3, ISet.none, [0, 2], 0, 0, ByteArray.empty⟩]
abbrev t9b : List Node := [byte9 34359738368, ⟨5, ISet.none, [0], 2, 9, ByteArray.empty⟩]
theorem p9a : ACall Tryz.prog 42 [.str ⟨#[97, 98, 42]⟩] [] fun r s => r = .tup [.sl true false (nodes t9a), .int .i64 0, .int .i64 0] ∧ s = [] := parse_run (by kernel_rfl)
theorem p9b : ACall Tryz.prog 42 [.str ⟨#[99, 123, 50, 44, 57, 125]⟩] [] fun r s => r = .tup [.sl true false (nodes t9b), .int .i64 0, .int .i64 0] ∧ s = [] := parse_run (by kernel_rfl)
theorem r9a : ref8S t9a 3 = (t9a, 0) := by decide +kernel
theorem r9b : ref8S t9b 3 = (t9b, 0) := by decide +kernel
theorem of9a : ACall Tryz.prog 19 [.str ⟨#[97, 98, 42]⟩, .int .i64 3] [] fun r s => r = .sl true false (nodes t9a) ∧ s = [] := by
  have h := rtree_c false t9a 3 (by decide) (by decide +kernel) (fun h1 h2 h3 => planR_nd h1 h2 h3)
  rw [r9a] at h
  simp only [flS_0] at h
  have hp := p9a
  generalize nodes t9a = A at h hp ⊢
  refine ACall.enter Tryz.func19 rfl (by kernel_rfl) (Nat.le_of_ble_eq_true rfl) ?_; simp only [initTm, Nat.reduceAdd]
  repeat' (first
  | refine gSq ?_ | refine gSk ?_ | refine gBl ?_ | refine gIb ?_ | refine gEx rfl ?_
  | ((first
  | (refine gRg [] [0, 1, 4, 5, 8] ?_; intro K hK)
  | refine cAl (hp) rfl rfl rfl ?_
  | refine cAl (h) rfl rfl rfl ?_
  | (refine gd_split ?_ ?_ <;> intro hb <;> (try simp only [bls] at hb) <;> (try simp only [hb]))
  | refine gRt [] [.tmp 4] rfl ?_ | refine gDn [] [.tmp 4] rfl ?_) <;> (try simp only [go_sem, simprocAttr]))
  | (refine hK _ _ ?_; clear hK K; simp only [go_sem, simprocAttr])
  | refine gCd (by simp only [go_sem, simprocAttr]; rfl) rfl ?_
  | refine brT ?_ | refine brF ?_
  | (refine brS ?_ ?_ <;> intro hc <;> (try simp only [bls] at hc) <;> (try simp only [hc, bls]))
  | intro _ | refine And.intro ?_ ?_)
  all_goals first | omega | (unfold bigLen; omega) | exact ⟨_, _, ⟨rfl, rfl⟩, rfl⟩ | exact ⟨_, rfl⟩ | (rename_i hy; simp only [List.mem_singleton] at hy; subst hy; rfl) | with_reducible rfl | skip
theorem of9b : ACall Tryz.prog 19 [.str ⟨#[99, 123, 50, 44, 57, 125]⟩, .int .i64 3] [] fun r s => r = .sl true false (nodes t9b) ∧ s = [] := by
  have h := rtree_c false t9b 3 (by decide) (by decide +kernel) (fun h1 h2 h3 => planR_nd h1 h2 h3)
  rw [r9b] at h
  simp only [flS_0] at h
  have hp := p9b
  generalize nodes t9b = A at h hp ⊢
  refine ACall.enter Tryz.func19 rfl (by kernel_rfl) (Nat.le_of_ble_eq_true rfl) ?_; simp only [initTm, Nat.reduceAdd]
  repeat' (first
  | refine gSq ?_ | refine gSk ?_ | refine gBl ?_ | refine gIb ?_ | refine gEx rfl ?_
  | ((first
  | (refine gRg [] [0, 1, 4, 5, 8] ?_; intro K hK)
  | refine cAl (hp) rfl rfl rfl ?_
  | refine cAl (h) rfl rfl rfl ?_
  | (refine gd_split ?_ ?_ <;> intro hb <;> (try simp only [bls] at hb) <;> (try simp only [hb]))
  | refine gRt [] [.tmp 4] rfl ?_ | refine gDn [] [.tmp 4] rfl ?_) <;> (try simp only [go_sem, simprocAttr]))
  | (refine hK _ _ ?_; clear hK K; simp only [go_sem, simprocAttr])
  | refine gCd (by simp only [go_sem, simprocAttr]; rfl) rfl ?_
  | refine brT ?_ | refine brF ?_
  | (refine brS ?_ ?_ <;> intro hc <;> (try simp only [bls] at hc) <;> (try simp only [hc, bls]))
  | intro _ | refine And.intro ?_ ?_)
  all_goals first | omega | (unfold bigLen; omega) | exact ⟨_, _, ⟨rfl, rfl⟩, rfl⟩ | exact ⟨_, rfl⟩ | (rename_i hy; simp only [List.mem_singleton] at hy; subst hy; rfl) | with_reducible rfl | skip
abbrev w9 : List Po := [⟨⟨0, 8589934592, 0, 0⟩, 1, 1, 0, true, [1]⟩, ⟨⟨0, 17179869184, 0, 0⟩, 1, 1, 0, true, [1]⟩, ⟨⟨0, 34359738368, 0, 0⟩, 2, 9, 1, true, []⟩]
theorem g9 : ofG [t9a, t9b] = ([0, 2], w9, 0) := by kernel_rfl
theorem same9uc (q f q' f' : Bool) (a : List Int) (ha : a.length ≤ 100000000) : ACall Tryz.prog 22 [.sl q f (ints a), .sl q' f' (ints a)] [] fun r s => r = .bool true ∧ s = [] := by
  refine ACall.enter Tryz.func22 rfl (by kernel_rfl) (Nat.le_of_ble_eq_true rfl) ?_; simp only [initTm, Nat.reduceAdd]
  repeat' (first
  | refine gSq ?_ | refine gSk ?_ | refine gBl ?_ | refine gIb ?_ | refine gEx rfl ?_
  | ((first
  | (refine gRg [] [0, 1, 4, 5, 10, 14, 25] ?_; intro K hK)
  | (refine gDr 6 [] 9 [0, 1, 2, 3, 4, 5, 6, 7, 8] [0, 1, 4, 5, 10, 14, 25] rfl ?_; intro K hK)
  | (refine gd_split ?_ ?_ <;> intro hb <;> (try simp only [bls] at hb) <;> (try simp only [hb]))
  | refine gRt [] [.tmp 4] rfl ?_ | refine gDn [] [.tmp 4] rfl ?_) <;> (try simp only [go_sem, simprocAttr]))
  | (refine hK _ _ ?_; clear hK K; simp only [go_sem, simprocAttr])
  | refine gCd (by simp only [go_sem, simprocAttr]; rfl) rfl ?_
  | refine brT ?_ | refine brF ?_
  | (refine brS ?_ ?_ <;> intro hc <;> (try simp only [bls] at hc) <;> (try simp only [hc, bls]))
  | intro _ | refine And.intro ?_ ?_)
  all_goals first | omega | (unfold bigLen; omega) | exact ⟨_, _, ⟨rfl, rfl⟩, rfl⟩ | exact ⟨_, rfl⟩ | (rename_i hy; simp only [List.mem_singleton] at hy; subst hy; rfl) | with_reducible rfl | skip
  refine AGood.prune [0, 1, 4, 5] ?_; simp only [go_sem, simprocAttr]
  refine AGood.loopInv (α := Nat) (fun i => ([(0, .sl q f (ints a)), (1, .sl q' f' (ints a)), (4, .bool false), (5, .int .i64 i)], [])) (fun i => i ≤ a.length) (fun i => a.length - i) 0 (Nat.zero_le _) rfl ?_
  rintro i hi ih
  simp only at hi ih ⊢
  by_cases hle : i < a.length
  · have e4 : (i : Int) < a.length := by omega
    have e5 : (0 : Int) ≤ i := by omega
    have e6 : (i : Int) + 1 = ((i + 1 : Nat) : Int) := by omega
    obtain ⟨x, hx⟩ : ∃ x, a[i]? = some x := ⟨_, List.getElem?_eq_getElem hle⟩
    repeat' (first
  | refine gSq ?_ | refine gSk ?_ | refine gBl ?_ | refine gIb ?_ | refine gEx rfl ?_
  | ((first
  | (refine gRg [] [0, 1, 4, 5, 10, 14, 25] ?_; intro K hK)
  | (refine gDr 6 [] 9 [0, 1, 2, 3, 4, 5, 6, 7, 8] [0, 1, 4, 5, 10, 14, 25] rfl ?_; intro K hK)
  | (refine gd_split ?_ ?_ <;> intro hb <;> (try simp only [bls] at hb) <;> (try simp only [hb]))
  | refine gRt [] [.tmp 4] rfl ?_ | refine gDn [] [.tmp 4] rfl ?_) <;> (try simp only [go_sem, simprocAttr, e4, e5, e6, hx, eq_self, Option.some.injEq, forall_eq']))
  | (refine hK _ _ ?_; clear hK K; simp only [go_sem, simprocAttr])
  | refine gCd (by simp only [go_sem, simprocAttr]; rfl) rfl ?_
  | refine brT ?_ | refine brF ?_
  | (refine brS ?_ ?_ <;> intro hc <;> (try simp only [bls] at hc) <;> (try simp only [hc, bls]))
  | intro _ | refine And.intro ?_ ?_)
    all_goals first | omega | (unfold bigLen; omega) | exact ⟨_, _, ⟨rfl, rfl⟩, rfl⟩ | exact ⟨_, rfl⟩ | (rename_i hy; simp only [List.mem_singleton] at hy; subst hy; rfl) | with_reducible rfl | skip
    refine AGood.prune [0, 1, 4, 5] ?_; simp only [go_sem, simprocAttr]
    exact (ih (i + 1) (by omega) (by omega)).cast rfl rfl
  · have e4 : ¬ (i : Int) < a.length := by omega
    clear ih
    repeat' (first
  | refine gSq ?_ | refine gSk ?_ | refine gBl ?_ | refine gIb ?_ | refine gEx rfl ?_
  | ((first
  | (refine gRg [] [0, 1, 4, 5, 10, 14, 25] ?_; intro K hK)
  | (refine gDr 6 [] 9 [0, 1, 2, 3, 4, 5, 6, 7, 8] [0, 1, 4, 5, 10, 14, 25] rfl ?_; intro K hK)
  | (refine gd_split ?_ ?_ <;> intro hb <;> (try simp only [bls] at hb) <;> (try simp only [hb]))
  | refine gRt [] [.tmp 4] rfl ?_ | refine gDn [] [.tmp 4] rfl ?_) <;> (try simp only [go_sem, simprocAttr, e4]))
  | (refine hK _ _ ?_; clear hK K; simp only [go_sem, simprocAttr])
  | refine gCd (by simp only [go_sem, simprocAttr]; rfl) rfl ?_
  | refine brT ?_ | refine brF ?_
  | (refine brS ?_ ?_ <;> intro hc <;> (try simp only [bls] at hc) <;> (try simp only [hc, bls]))
  | intro _ | refine And.intro ?_ ?_)
    all_goals first | omega | (unfold bigLen; omega) | exact ⟨_, _, ⟨rfl, rfl⟩, rfl⟩ | exact ⟨_, rfl⟩ | (rename_i hy; simp only [List.mem_singleton] at hy; subst hy; rfl) | with_reducible rfl | skip
theorem Same9uc (b1 b2 b3 b4 : Bool) (fi : List Int) (ps : List Po) (hf : fi.length ≤ 100000000) (hp : ps.length ≤ 1000000) (hn : ∀ p ∈ ps, p.next.length ≤ 100000000) :
    ACall Tryz.prog 9 [.agg [.sl true b1 (ints fi), .sl true b2 (poss ps)], .agg [.sl true b3 (ints fi), .sl true b4 (poss ps)]] [] fun r s => r = .bool true ∧ s = [] := by
  have hs := same9uc true b1 true b3 fi hf
  refine ACall.enter Tryz.func9 rfl (by kernel_rfl) (Nat.le_of_ble_eq_true rfl) ?_; simp only [initTm, Nat.reduceAdd]
  repeat' (first
  | refine gSq ?_ | refine gSk ?_ | refine gBl ?_ | refine gIb ?_ | refine gEx rfl ?_
  | ((first
  | (refine gRg [] [0, 1, 2, 3, 4, 5, 6, 7, 22, 27, 80] ?_; intro K hK)
  | refine cAl (hs) rfl rfl rfl ?_
  | (refine gd_split ?_ ?_ <;> intro hb <;> (try simp only [bls] at hb) <;> (try simp only [hb]))
  | refine gRt [] [.tmp 4] rfl ?_ | refine gDn [] [.tmp 4] rfl ?_) <;> (try simp only [go_sem, simprocAttr]))
  | (refine hK _ _ ?_; clear hK K; simp only [go_sem, simprocAttr])
  | refine gCd (by simp only [go_sem, simprocAttr]; rfl) rfl ?_
  | refine brT ?_ | refine brF ?_
  | (refine brS ?_ ?_ <;> intro hc <;> (try simp only [bls] at hc) <;> (try simp only [hc, bls]))
  | intro _ | refine And.intro ?_ ?_)
  all_goals first | omega | (unfold bigLen; omega) | exact ⟨_, _, ⟨rfl, rfl⟩, rfl⟩ | exact ⟨_, rfl⟩ | (rename_i hy; simp only [List.mem_singleton] at hy; subst hy; rfl) | with_reducible rfl | skip
  rename_i h2 h3
  refine AGood.prune [2, 3, 4, 5] ?_; simp only [go_sem, simprocAttr]
  refine AGood.loopInv (α := Nat) (fun i => ([(2, .bx 2 h2 0), (3, .bx 3 h3 0), (4, .bool false), (5, .int .i64 i)], [(2, h2, .box [.sl true b1 (ints fi), .sl true b2 (poss ps)]), (3, h3, .box [.sl true b3 (ints fi), .sl true b4 (poss ps)])])) (fun i => i ≤ ps.length) (fun i => ps.length - i) 0 (Nat.zero_le _) rfl ?_
  rintro i hi ih
  simp only at hi ih ⊢
  by_cases hle : i < ps.length
  · have e4 : (i : Int) < ps.length := by omega
    have e5 : (0 : Int) ≤ i := by omega
    have e6 : (i : Int) + 1 = ((i + 1 : Nat) : Int) := by omega
    obtain ⟨p, hx⟩ : ∃ x, ps[i]? = some x := ⟨_, List.getElem?_eq_getElem hle⟩
    have hpn := hn p (List.mem_of_getElem? hx)
    have hsn := same9uc true false true false p.next hpn
    obtain ⟨⟨sa, sb, sc, sd⟩, lo, hi', rule, last, next⟩ := p
    simp only at hsn
    cases last
    · repeat' (first
  | refine gSq ?_ | refine gSk ?_ | refine gBl ?_ | refine gIb ?_ | refine gEx rfl ?_
  | ((first
  | (refine gRg [] [0, 1, 2, 3, 4, 5, 6, 7, 22, 27, 80] ?_; intro K hK)
  | refine cAl (hsn) rfl rfl rfl ?_
  | (refine gd_split ?_ ?_ <;> intro hb <;> (try simp only [bls] at hb) <;> (try simp only [hb]))
  | refine gRt [] [.tmp 4] rfl ?_ | refine gDn [] [.tmp 4] rfl ?_) <;> (try simp only [go_sem, simprocAttr, e4, e5, e6, hx, eq_self, beq_self_eq_true, Option.some.injEq, forall_eq']))
  | (refine hK _ _ ?_; clear hK K; simp only [go_sem, simprocAttr])
  | refine gCd (by simp only [go_sem, simprocAttr]; rfl) rfl ?_
  | refine brT ?_ | refine brF ?_
  | (refine brS ?_ ?_ <;> intro hc <;> (try simp only [bls] at hc) <;> (try simp only [hc, bls]))
  | intro _ | refine And.intro ?_ ?_)
      all_goals first | omega | (unfold bigLen; omega) | exact ⟨_, _, ⟨rfl, rfl⟩, rfl⟩ | exact ⟨_, rfl⟩ | (rename_i hy; simp only [List.mem_singleton] at hy; subst hy; rfl) | with_reducible rfl | skip
      refine AGood.filt [2, 3] ?_
      simp only [sf_cons, sf_nil, go_sem, simprocAttr]
      refine AGood.prune [2, 3, 4, 5] ?_; simp only [go_sem, simprocAttr]
      exact (ih (i + 1) (by omega) (by omega)).cast rfl rfl
    · repeat' (first
  | refine gSq ?_ | refine gSk ?_ | refine gBl ?_ | refine gIb ?_ | refine gEx rfl ?_
  | ((first
  | (refine gRg [] [0, 1, 2, 3, 4, 5, 6, 7, 22, 27, 80] ?_; intro K hK)
  | refine cAl (hsn) rfl rfl rfl ?_
  | (refine gd_split ?_ ?_ <;> intro hb <;> (try simp only [bls] at hb) <;> (try simp only [hb]))
  | refine gRt [] [.tmp 4] rfl ?_ | refine gDn [] [.tmp 4] rfl ?_) <;> (try simp only [go_sem, simprocAttr, e4, e5, e6, hx, eq_self, beq_self_eq_true, Option.some.injEq, forall_eq']))
  | (refine hK _ _ ?_; clear hK K; simp only [go_sem, simprocAttr])
  | refine gCd (by simp only [go_sem, simprocAttr]; rfl) rfl ?_
  | refine brT ?_ | refine brF ?_
  | (refine brS ?_ ?_ <;> intro hc <;> (try simp only [bls] at hc) <;> (try simp only [hc, bls]))
  | intro _ | refine And.intro ?_ ?_)
      all_goals first | omega | (unfold bigLen; omega) | exact ⟨_, _, ⟨rfl, rfl⟩, rfl⟩ | exact ⟨_, rfl⟩ | (rename_i hy; simp only [List.mem_singleton] at hy; subst hy; rfl) | with_reducible rfl | skip
      refine AGood.filt [2, 3] ?_
      simp only [sf_cons, sf_nil, go_sem, simprocAttr]
      refine AGood.prune [2, 3, 4, 5] ?_; simp only [go_sem, simprocAttr]
      exact (ih (i + 1) (by omega) (by omega)).cast rfl rfl
  · have e4 : ¬ (i : Int) < ps.length := by omega
    clear ih
    repeat' (first
  | refine gSq ?_ | refine gSk ?_ | refine gBl ?_ | refine gIb ?_ | refine gEx rfl ?_
  | ((first
  | (refine gRg [] [0, 1, 2, 3, 4, 5, 6, 7, 22, 27, 80] ?_; intro K hK)
  | (refine gd_split ?_ ?_ <;> intro hb <;> (try simp only [bls] at hb) <;> (try simp only [hb]))
  | refine gRt [] [.tmp 4] rfl ?_ | refine gDn [] [.tmp 4] rfl ?_) <;> (try simp only [go_sem, simprocAttr, e4]))
  | (refine hK _ _ ?_; clear hK K; simp only [go_sem, simprocAttr])
  | refine gCd (by simp only [go_sem, simprocAttr]; rfl) rfl ?_
  | refine brT ?_ | refine brF ?_
  | (refine brS ?_ ?_ <;> intro hc <;> (try simp only [bls] at hc) <;> (try simp only [hc, bls]))
  | intro _ | refine And.intro ?_ ?_)
    all_goals first | omega | (unfold bigLen; omega) | exact ⟨_, _, ⟨rfl, rfl⟩, rfl⟩ | exact ⟨_, rfl⟩ | (rename_i hy; simp only [List.mem_singleton] at hy; subst hy; rfl) | with_reducible rfl | skip
theorem set9uc (c : Nat) (hc : c ≤ 255) : ACall Tryz.prog 20 [.int .u8 c] [] fun r s => r = .agg ([c].foldl withI ISet.none).cells ∧ s = [] := by
  have h := fun q f => of_c q f [c] (fun x hx => by simp at hx; omega) (by simp)
  simp only [bytesL, List.map_cons, List.map_nil] at h
  generalize [c].foldl withI ISet.none = S at h
  obtain ⟨sa, sb, sc, sd⟩ := S
  simp only [ISet.cells] at h ⊢
  refine ACall.enter Tryz.func20 rfl (by kernel_rfl) (Nat.le_of_ble_eq_true rfl) ?_; simp only [initTm, Nat.reduceAdd]
  repeat' (first
  | refine gSq ?_ | refine gSk ?_ | refine gBl ?_ | refine gIb ?_ | refine gEx rfl ?_
  | ((first
  | (refine gRg [4] [0, 2] ?_; intro K hK)
  | refine cAl (h _ _) rfl rfl rfl ?_
  | (refine gd_split ?_ ?_ <;> intro hb <;> (try simp only [bls] at hb) <;> (try simp only [hb]))
  | refine gRt [] [.cell 2 39] rfl ?_ | refine gDn [] [.cell 2 39] rfl ?_) <;> (try simp only [go_sem, simprocAttr]))
  | (refine hK _ _ ?_; clear hK K; simp only [go_sem, simprocAttr])
  | refine gCd (by simp only [go_sem, simprocAttr]; rfl) rfl ?_
  | refine brT ?_ | refine brF ?_
  | (refine brS ?_ ?_ <;> intro hc <;> (try simp only [bls] at hc) <;> (try simp only [hc, bls]))
  | intro _ | refine And.intro ?_ ?_)
  all_goals first | omega | (unfold bigLen; omega) | exact ⟨_, _, ⟨rfl, rfl⟩, rfl⟩ | exact ⟨_, rfl⟩ | (rename_i hy; simp only [List.mem_singleton] at hy; subst hy; rfl) | with_reducible rfl | skip
theorem u9a : [97].foldl withI ISet.none = ⟨0, 8589934592, 0, 0⟩ := by decide +kernel
theorem u9b : [98].foldl withI ISet.none = ⟨0, 17179869184, 0, 0⟩ := by decide +kernel
theorem u9c : [99].foldl withI ISet.none = ⟨0, 34359738368, 0, 0⟩ := by decide +kernel
theorem shown9uc : ACall Tryz.prog 8 [] [] fun r s => r = .bool true ∧ s = [] := by
  have hO : ∀ b, ACall _ _ [.sl true b [[.sl true false (nodes t9a)], [.sl true false (nodes t9b)]]] [] _ := fun b => of9F_c b [t9a, t9b] (by decide) (by unfold ndOk; decide +kernel)
  rw [g9] at hO
  have ha := of9a
  have hb := of9b
  have sA := set9uc 97 (by decide)
  have sB := set9uc 98 (by decide)
  have sC := set9uc 99 (by decide)
  rw [u9a] at sA
  rw [u9b] at sB
  rw [u9c] at sC
  have hS := fun b1 b2 b3 b4 => Same9uc b1 b2 b3 b4 [0, 2] w9 (by decide) (by decide) (by decide +kernel)
  generalize nodes t9a = A at ha hO
  generalize nodes t9b = B at hb hO
  simp only [List.map_cons, List.map_nil, ISet.cells, Int.cast_ofNat_Int] at hO sA sB sC hS
  refine ACall.enter Tryz.func8 rfl (by kernel_rfl) (Nat.le_of_ble_eq_true rfl) ?_; simp only [initTm, Nat.reduceAdd]
  repeat' (first
  | refine gSq ?_ | refine gSk ?_ | refine gBl ?_ | refine gIb ?_ | refine gEx rfl ?_
  | ((first
  | (refine gRg [8, 12, 15, 19, 24] [0, 1, 2, 3, 4] ?_; intro K hK)
  | refine cAl (ha) rfl rfl rfl ?_
  | refine cAl (hb) rfl rfl rfl ?_
  | refine cAl (sA) rfl rfl rfl ?_
  | refine cAl (sB) rfl rfl rfl ?_
  | refine cAl (sC) rfl rfl rfl ?_
  | refine cAl (hS _ _ _ _) rfl rfl rfl ?_
  | (refine ACall.mono (hO _) ?_; rintro _ _ ⟨rfl, rfl⟩)
  | (refine gd_split ?_ ?_ <;> intro hb <;> (try simp only [bls] at hb) <;> (try simp only [hb]))
  | refine gRt [] [.tmp 0] rfl ?_ | refine gDn [] [.tmp 0] rfl ?_) <;> (try simp only [go_sem, simprocAttr, AVal.isCell, Option.some.injEq, exists_eq_left', forall_eq']))
  | (refine hK _ _ ?_; clear hK K; simp only [go_sem, simprocAttr])
  | refine gCd (by simp only [go_sem, simprocAttr]; rfl) rfl ?_
  | refine brT ?_ | refine brF ?_
  | (refine brS ?_ ?_ <;> intro hc <;> (try simp only [bls] at hc) <;> (try simp only [hc, bls]))
  | intro _ | refine And.intro ?_ ?_)
  all_goals first | omega | (unfold bigLen; omega) | exact ⟨_, _, ⟨rfl, rfl⟩, rfl⟩ | exact ⟨_, rfl⟩ | (rename_i hy; simp only [List.mem_singleton] at hy; subst hy; rfl) | with_reducible rfl | skip
  all_goals trace_state
end Go.Rad
/- Contracts: the document's places of plans. -/
namespace Go.Rad
open Go Go.Proofs
set_option linter.all false
set_option maxRecDepth 20000
set_option maxHeartbeats 4000000

theorem right_kidsR {x : List Node} (h : rightP x = true) : kidsOkR x := by
  obtain ⟨h0, h1, h2⟩ := right_kids h
  rw [rightP, Bool.and_eq_true] at h
  have h6 : x.all plainN = true := by have := h.1; simp only [plainS, Bool.and_eq_true] at this; exact this.1
  obtain ⟨fo, _, hfo, hsf, _, _⟩ := (plain_fo _).1 h.1
  refine ⟨h1, fun i n hi => ⟨(h2 i n hi).1, (h2 i n hi).2.1, fun c1 c2 => ?_⟩⟩
  have hs : shapeOk n = true := List.all_eq_true.1 ((Fo.lay_shape fo 0).trans hsf) n (by rw [← hfo]; exact List.mem_of_getElem? hi)
  have h6 := List.all_eq_true.1 h6 n (List.mem_of_getElem? hi)
  by_cases c5 : n.op = 5
  · have := (h2 i n hi).2.2 c5; omega
  · simp only [plainN, decide_eq_true_eq] at h6
    unfold shapeOk at hs
    rw [if_neg c1, if_neg c2] at hs
    by_cases c3 : n.op = 3 ∨ n.op = 4
    · rw [if_pos c3] at hs
      simp only [Bool.and_eq_true, decide_eq_true_eq] at hs
      omega
    · rw [if_neg c3, if_neg c5] at hs
      simp [h6] at hs
theorem rof9f_c (f : Bool) (ls : List (List Node)) (hll : ls.length ≤ 1000000) (hnd : ∀ x ∈ ls, x.length ≤ maxLen ∧ ndOk x) :
    ACall Tryz.prog 7 [.sl true f (trees ls)] [] fun r s => (∃ b1 b2, r = .tup [.agg [.sl true b1 (ints (ofG ls).1), .sl true b2 (poss (ofG ls).2.1)], .int .i64 (ofG ls).2.2]) ∧ s = [] := by
  by_cases hlen : 512 < ls.length
  · rw [ofG, if_pos (.inl hlen)]
    have e1 : (512 : Int) < ls.length := by omega
    refine ACall.enter Tryz.func7 rfl (by kernel_rfl) (Nat.le_of_ble_eq_true rfl) ?_; simp only [initTm, Nat.reduceAdd]
    repeat' (first
  | refine gSq ?_ | refine gSk ?_ | refine gBl ?_ | refine gIb ?_ | refine gEx rfl ?_
  | ((first
  | (refine gRg [] [0, 2, 3, 4, 5, 6, 7, 8, 9, 12, 17, 25, 33, 59, 78] ?_; intro K hK)
  | (refine gDr 13 [] 12 [0, 1, 2, 3, 4, 5, 6, 7, 8, 9, 10, 11, 12, 13, 14] [0, 2, 3, 4, 5, 6, 7, 8, 9, 12, 17, 25, 33, 59, 78] rfl ?_; intro K hK)
  | (refine gDr 18 [] 11 [0, 1, 2, 3, 4, 5, 6, 7, 8, 9, 10, 11] [0, 2, 3, 4, 5, 6, 7, 8, 9, 12, 17, 25, 33, 59, 78] rfl ?_; intro K hK)
  | (refine gd_split ?_ ?_ <;> intro hb <;> (try simp only [bls] at hb) <;> (try simp only [hb]))
  | refine gRt [] [.cell 2 26, .tmp 3] rfl ?_ | refine gDn [] [.cell 2 26, .tmp 3] rfl ?_) <;> (try simp only [go_sem, simprocAttr, e1, AVal.isCell]))
  | (refine hK _ _ ?_; clear hK K; simp only [go_sem, simprocAttr])
  | refine gCd (by simp only [go_sem, simprocAttr]; rfl) rfl ?_
  | refine brT ?_ | refine brF ?_
  | (refine brS ?_ ?_ <;> intro hc <;> (try simp only [bls] at hc) <;> (try simp only [hc, bls]))
  | intro _ | refine And.intro ?_ ?_)
    all_goals first | omega | (unfold bigLen; omega) | exact ⟨_, _, ⟨rfl, rfl⟩, rfl⟩ | exact ⟨_, rfl⟩ | (rename_i hy; simp only [List.mem_singleton] at hy; subst hy; rfl) | with_reducible rfl | skip
    all_goals exact ⟨_, _, rfl⟩
  have e1 : ¬ (512 : Int) < ls.length := by omega
  have hrc := fun f x hx => rright_c f x (hnd x hx).1 (fun n hn => ⟨((hnd x hx).2 n hn).2, ((hnd x hx).2 n hn).1⟩)
  refine ACall.enter Tryz.func7 rfl (by kernel_rfl) (Nat.le_of_ble_eq_true rfl) ?_; simp only [initTm, Nat.reduceAdd]
  repeat' (first
  | refine gSq ?_ | refine gSk ?_ | refine gBl ?_ | refine gIb ?_ | refine gEx rfl ?_
  | ((first
  | (refine gRg [] [0, 2, 3, 4, 5, 6, 7, 8, 9, 12, 17, 25, 33, 59, 78] ?_; intro K hK)
  | (refine gDr 13 [] 12 [0, 1, 2, 3, 4, 5, 6, 7, 8, 9, 10, 11, 12, 13, 14] [0, 2, 3, 4, 5, 6, 7, 8, 9, 12, 17, 25, 33, 59, 78] rfl ?_; intro K hK)
  | (refine gDr 18 [] 11 [0, 1, 2, 3, 4, 5, 6, 7, 8, 9, 10, 11] [0, 2, 3, 4, 5, 6, 7, 8, 9, 12, 17, 25, 33, 59, 78] rfl ?_; intro K hK)
  | (refine gd_split ?_ ?_ <;> intro hb <;> (try simp only [bls] at hb) <;> (try simp only [hb]))
  | refine gRt [] [.cell 2 26, .tmp 3] rfl ?_ | refine gDn [] [.cell 2 26, .tmp 3] rfl ?_) <;> (try simp only [go_sem, simprocAttr, e1, AVal.isCell]))
  | (refine hK _ _ ?_; clear hK K; simp only [go_sem, simprocAttr])
  | refine gCd (by simp only [go_sem, simprocAttr]; rfl) rfl ?_
  | refine brT ?_ | refine brF ?_
  | (refine brS ?_ ?_ <;> intro hc <;> (try simp only [bls] at hc) <;> (try simp only [hc, bls]))
  | intro _ | refine And.intro ?_ ?_)
  all_goals first | omega | (unfold bigLen; omega) | exact ⟨_, _, ⟨rfl, rfl⟩, rfl⟩ | exact ⟨_, rfl⟩ | (rename_i hy; simp only [List.mem_singleton] at hy; subst hy; rfl) | with_reducible rfl | skip
  rename_i h2
  refine AGood.prune [0, 2, 3, 4] ?_; simp only [go_sem, simprocAttr]
  refine AGood.loopInv (α := Nat) (fun i => ([(0, .sl true f (trees ls)), (2, .bx 2 h2 0), (3, .int .i64 0), (4, .int .i64 i)], [(2, (h2, .box [.sl true true [], .sl true true []]))])) (fun i => i ≤ ls.length ∧ ∀ j x, j < i → ls[j]? = some x → rightP x = true) (fun i => ls.length - i) 0 ⟨Nat.zero_le _, fun j x h => by omega⟩ rfl ?_
  rintro i ⟨hi, hbef⟩ ih
  simp only at hi hbef ih ⊢
  by_cases hle : i < ls.length
  · have e4 : (i : Int) < ls.length := by omega
    have e5 : (0 : Int) ≤ i := by omega
    have e6 : (i : Int) + 1 = ((i + 1 : Nat) : Int) := by omega
    obtain ⟨x, hx⟩ : ∃ x, ls[i]? = some x := ⟨_, List.getElem?_eq_getElem hle⟩
    have hv : (trees ls)[i]? = some [.sl true false (nodes x)] := by simp [trees, hx]
    have hc := hrc false x (List.mem_of_getElem? hx)
    cases hr : rightP x
    · rw [hr] at hc
      rw [ofG, if_pos (.inr (List.any_eq_true.2 ⟨x, List.mem_of_getElem? hx, by simp [hr]⟩))]
      repeat' (first
  | refine gSq ?_ | refine gSk ?_ | refine gBl ?_ | refine gIb ?_ | refine gEx rfl ?_
  | ((first
  | (refine gRg [] [0, 2, 3, 4, 5, 6, 7, 8, 9, 12, 17, 25, 33, 59, 78] ?_; intro K hK)
  | (refine gDr 13 [] 12 [0, 1, 2, 3, 4, 5, 6, 7, 8, 9, 10, 11, 12, 13, 14] [0, 2, 3, 4, 5, 6, 7, 8, 9, 12, 17, 25, 33, 59, 78] rfl ?_; intro K hK)
  | (refine gDr 18 [] 11 [0, 1, 2, 3, 4, 5, 6, 7, 8, 9, 10, 11] [0, 2, 3, 4, 5, 6, 7, 8, 9, 12, 17, 25, 33, 59, 78] rfl ?_; intro K hK)
  | refine cAl (hc) rfl rfl rfl ?_
  | (refine gd_split ?_ ?_ <;> intro hb <;> (try simp only [bls] at hb) <;> (try simp only [hb]))
  | refine gRt [] [.cell 2 26, .tmp 3] rfl ?_ | refine gDn [] [.cell 2 26, .tmp 3] rfl ?_) <;> (try simp only [go_sem, simprocAttr, e4, e5, hx, hv, AVal.isCell, Option.some.injEq, forall_eq']))
  | (refine hK _ _ ?_; clear hK K; simp only [go_sem, simprocAttr])
  | refine gCd (by simp only [go_sem, simprocAttr]; rfl) rfl ?_
  | refine brT ?_ | refine brF ?_
  | (refine brS ?_ ?_ <;> intro hc <;> (try simp only [bls] at hc) <;> (try simp only [hc, bls]))
  | intro _ | refine And.intro ?_ ?_)
      all_goals first | omega | (unfold bigLen; omega) | exact ⟨_, _, ⟨rfl, rfl⟩, rfl⟩ | exact ⟨_, rfl⟩ | (rename_i hy; simp only [List.mem_singleton] at hy; subst hy; rfl) | with_reducible rfl | skip
      all_goals exact ⟨_, _, rfl⟩
    · rw [hr] at hc
      repeat' (first
  | refine gSq ?_ | refine gSk ?_ | refine gBl ?_ | refine gIb ?_ | refine gEx rfl ?_
  | ((first
  | (refine gRg [] [0, 2, 3, 4, 5, 6, 7, 8, 9, 12, 17, 25, 33, 59, 78] ?_; intro K hK)
  | (refine gDr 13 [] 12 [0, 1, 2, 3, 4, 5, 6, 7, 8, 9, 10, 11, 12, 13, 14] [0, 2, 3, 4, 5, 6, 7, 8, 9, 12, 17, 25, 33, 59, 78] rfl ?_; intro K hK)
  | (refine gDr 18 [] 11 [0, 1, 2, 3, 4, 5, 6, 7, 8, 9, 10, 11] [0, 2, 3, 4, 5, 6, 7, 8, 9, 12, 17, 25, 33, 59, 78] rfl ?_; intro K hK)
  | refine cAl (hc) rfl rfl rfl ?_
  | (refine gd_split ?_ ?_ <;> intro hb <;> (try simp only [bls] at hb) <;> (try simp only [hb]))
  | refine gRt [] [.cell 2 26, .tmp 3] rfl ?_ | refine gDn [] [.cell 2 26, .tmp 3] rfl ?_) <;> (try simp only [go_sem, simprocAttr, e4, e5, e6, hx, hv, AVal.isCell, Option.some.injEq, forall_eq']))
  | (refine hK _ _ ?_; clear hK K; simp only [go_sem, simprocAttr])
  | refine gCd (by simp only [go_sem, simprocAttr]; rfl) rfl ?_
  | refine brT ?_ | refine brF ?_
  | (refine brS ?_ ?_ <;> intro hc <;> (try simp only [bls] at hc) <;> (try simp only [hc, bls]))
  | intro _ | refine And.intro ?_ ?_)
      all_goals first | omega | (unfold bigLen; omega) | exact ⟨_, _, ⟨rfl, rfl⟩, rfl⟩ | exact ⟨_, rfl⟩ | (rename_i hy; simp only [List.mem_singleton] at hy; subst hy; rfl) | with_reducible rfl | skip
      refine AGood.filt [2] ?_
      simp only [sf_cons, sf_nil, go_sem, simprocAttr]
      refine AGood.prune [0, 2, 3, 4] ?_; simp only [go_sem, simprocAttr]
      refine (ih (i + 1) ⟨by omega, fun j y hj hy => ?_⟩ (by omega)).cast rfl rfl
      by_cases e : j = i
      · subst e; rw [hx] at hy; cases hy; exact hr
      · exact hbef j y (by omega) hy
  · have e4 : ¬ (i : Int) < ls.length := by omega
    have hall : ∀ x ∈ ls, rightP x = true := fun x hx => by
      obtain ⟨j, hj⟩ := List.mem_iff_getElem?.1 hx
      have := (List.getElem?_eq_some_iff.1 hj).1
      exact hbef j x (by omega) hj
    clear ih hbef hrc
    have hany : ¬ ls.any (fun x => !rightP x) = true := fun h => by
      obtain ⟨x, hx, h2⟩ := List.any_eq_true.1 h
      rw [hall x hx] at h2; cases h2
    rw [ofG, if_neg (fun h => h.elim hlen hany)]
    clear hany
    repeat' (first
  | refine gSq ?_ | refine gSk ?_ | refine gBl ?_ | refine gIb ?_ | refine gEx rfl ?_
  | ((first
  | (refine gRg [] [0, 2, 3, 4, 5, 6, 7, 8, 9, 12, 17, 25, 33, 59, 78] ?_; intro K hK)
  | (refine gDr 13 [] 12 [0, 1, 2, 3, 4, 5, 6, 7, 8, 9, 10, 11, 12, 13, 14] [0, 2, 3, 4, 5, 6, 7, 8, 9, 12, 17, 25, 33, 59, 78] rfl ?_; intro K hK)
  | (refine gDr 18 [] 11 [0, 1, 2, 3, 4, 5, 6, 7, 8, 9, 10, 11] [0, 2, 3, 4, 5, 6, 7, 8, 9, 12, 17, 25, 33, 59, 78] rfl ?_; intro K hK)
  | (refine gd_split ?_ ?_ <;> intro hb <;> (try simp only [bls] at hb) <;> (try simp only [hb]))
  | refine gRt [] [.cell 2 26, .tmp 3] rfl ?_ | refine gDn [] [.cell 2 26, .tmp 3] rfl ?_) <;> (try simp only [go_sem, simprocAttr, e4, AVal.isCell]))
  | (refine hK _ _ ?_; clear hK K; simp only [go_sem, simprocAttr])
  | refine gCd (by simp only [go_sem, simprocAttr]; rfl) rfl ?_
  | refine brT ?_ | refine brF ?_
  | (refine brS ?_ ?_ <;> intro hc <;> (try simp only [bls] at hc) <;> (try simp only [hc, bls]))
  | intro _ | refine And.intro ?_ ?_)
    all_goals first | omega | (unfold bigLen; omega) | exact ⟨_, _, ⟨rfl, rfl⟩, rfl⟩ | exact ⟨_, rfl⟩ | (rename_i hy; simp only [List.mem_singleton] at hy; subst hy; rfl) | with_reducible rfl | skip
    rename_i h28 h6
    refine AGood.ownBox 28 0 901 9 (by decide) rfl rfl (by decide) ?_
    intro g901
    simp only [List.set_cons_succ, List.set_cons_zero, go_sem, simprocAttr]
    obtain ⟨O, hO⟩ : ∃ O, O = goO 0 ls [] [] := ⟨_, rfl⟩
    rw [← hO]
    refine AGood.prune [0, 2, 3, 5, 6, 7] ?_; simp only [go_sem, simprocAttr]
    refine AGood.loopInv (α := Nat × Nat × List Po × List Int × Bool) (fun z => ([(0, .sl true f (trees ls)), (2, .bx 2 h2 0), (3, .int .i64 0), (5, .bx 28 h28 0), (6, .bx 6 h6 0), (7, .int .i64 z.1)], [(2, (h2, .box [.sl true true [], .sl true true []])), (6, (h6, .box [.sl true z.2.2.2.2 (ints z.2.2.2.1), .sl true true []])), (28, (h28, .box [.osl 901 z.2.1 0 z.2.2.1.length])), (901, (z.2.1, .row 9 (poss z.2.2.1)))]))
      (fun z => z.1 ≤ ls.length ∧ z.2.2.1.length ≤ 512 ∧ Rn z.2.2.1.length z.2.2.1 ∧ Rs z.2.2.1.length z.2.2.2.1 ∧ O = goO z.1 (ls.drop z.1) z.2.2.1 z.2.2.2.1) (fun z => ls.length - z.1) (0, g901, [], [], true) ⟨Nat.zero_le _, by simp, fun p hp => by simp at hp, rs_nil _, hO⟩ rfl ?_
    rintro ⟨i, g9, ps, fi, fb⟩ ⟨hi, hpl, hrn, hrs, hrun⟩ ih
    simp only at hi hpl hrn hrs hrun ih ⊢
    by_cases hle : i < ls.length
    · have e4 : (i : Int) < ls.length := by omega
      have e5 : (0 : Int) ≤ i := by omega
      have e6 : (i : Int) + 1 = ((i + 1 : Nat) : Int) := by omega
      obtain ⟨x, hx⟩ : ∃ x, ls[i]? = some x := ⟨_, List.getElem?_eq_getElem hle⟩
      have hxm := List.mem_of_getElem? hx
      have hxr := hall x hxm
      have hko := right_kidsR hxr
      have hx1 := (right_kids hxr).1
      have hxl := hko.1
      have e7 : (x.length : Int) - 1 = ((x.length - 1 : Nat) : Int) := by omega
      have hv : (trees ls)[i]? = some [.sl true false (nodes x)] := by simp [trees, hx]
      have hdr : ls.drop i = x :: ls.drop (i + 1) := by
        obtain ⟨h1, h2⟩ := List.getElem?_eq_some_iff.1 hx
        rw [List.drop_eq_getElem_cons h1, h2]
      rw [hdr, goO] at hrun
      obtain ⟨q1, q2, q3, q4⟩ := list_ok (x := x) (r := i) hrn
      have hnl := nodeR_list hxr i hrn
      have hnode := fun g => rnode9uc (f := false) (rule := i) hko x.length (x.length - 1) (by omega) (by omega) g g9 ps hrn (by rw [hnl]; simp only; omega)
      rw [hnl] at hnode
      have hon : oneO x i ps = (mrk ((listG x i ps).2.getLastD enN).last (listG x i ps).1, (listG x i ps).2.getLastD enN) := rfl
      rw [hon] at hrun
      simp only [mrk_len] at hrun
      simp only [gsto] at hnode
      clear hdr hon hnl
      generalize (listG x i ps).1 = Q at hnode q1 q2 q3 q4 hrun
      generalize (listG x i ps).2.getLastD enN = e at hnode q2 hrun
      obtain ⟨en, ef, el⟩ := e
      simp only [En.cells] at hnode hrun
      have hbo := fun fl => both9uc true fl true false fi ef Q.length (rs_mono hrs q3) q2.1 (by omega)
      have hel := rs_len q2.2
      have helb := q2.2.2
      have hfi : Rs Q.length (uni fi ef) := rs_uni (rs_mono hrs q3) q2.1
      simp only at hel helb
      generalize uni fi ef = fi' at hbo hrun hfi
      repeat' (first
  | refine gSq ?_ | refine gSk ?_ | refine gBl ?_ | refine gIb ?_ | refine gEx rfl ?_
  | ((first
  | (refine gRg [] [0, 2, 3, 4, 5, 6, 7, 8, 9, 12, 17, 25, 33, 59, 78] ?_; intro K hK)
  | (refine gD2 13 [] 12 [0, 1, 2, 3, 4, 5, 6, 7, 8, 9, 10, 11, 12, 13, 14] [0, 1, 2, 3, 4, 5, 6, 7, 8, 9, 10, 11, 13, 12, 14] [] [37, 39, 41, 43] [0, 2, 3, 4, 5, 6, 7, 8, 9, 12, 17, 25, 33, 59, 78] rfl ?_; intro K hK)
  | (refine gDr 18 [] 11 [0, 1, 2, 3, 4, 5, 6, 7, 8, 9, 10, 11] [0, 2, 3, 4, 5, 6, 7, 8, 9, 12, 17, 25, 33, 59, 78] rfl ?_; intro K hK)
  | refine cAl (hbo _) rfl rfl rfl ?_
  | (refine ACall.use [(1000, 28), (1001, 901)] [] rfl (hnode _) rfl rfl rfl ?_; rintro _ _ ⟨rfl, h1, rfl⟩; refine ⟨.inl rfl, rfl, ?_⟩; simp only [bk, bk2, bk1, bkS, bkO, idOf, delAll, go_sem, simprocAttr])
  | (refine gd_split ?_ ?_ <;> intro hb <;> (try simp only [bls] at hb) <;> (try simp only [hb]))
  | refine gRt [] [.cell 2 26, .tmp 3] rfl ?_ | refine gDn [] [.cell 2 26, .tmp 3] rfl ?_) <;> (try simp only [go_sem, simprocAttr, e4, e5, e7, hx, hv, AVal.isCell, Option.some.injEq, forall_eq']))
  | (refine hK _ _ ?_; clear hK K; simp only [go_sem, simprocAttr])
  | refine gCd (by simp only [go_sem, simprocAttr]; rfl) rfl ?_
  | refine brT ?_ | refine brF ?_
  | (refine brS ?_ ?_ <;> intro hc <;> (try simp only [bls] at hc) <;> (try simp only [hc, bls]))
  | intro _ | refine And.intro ?_ ?_)
      all_goals first | omega | (unfold bigLen; omega) | exact ⟨_, _, ⟨rfl, rfl⟩, rfl⟩ | exact ⟨_, rfl⟩ | (rename_i hy; simp only [List.mem_singleton] at hy; subst hy; rfl) | with_reducible rfl | skip
      all_goals
        rename_i h8
        refine AGood.filt [2, 6, 8, 28, 901] ?_
        simp only [sf_cons, sf_nil, go_sem, simprocAttr]
        refine AGood.boxRef 8 8 rfl rfl rfl ?_
        simp only [go_sem, simprocAttr]
        refine AGood.prune [0, 2, 3, 5, 6, 7, 8, 9] ?_; simp only [go_sem, simprocAttr]
        refine AGood.loopInv (α := Nat) (fun j => ([(0, .sl true f (trees ls)), (2, .bx 2 h2 0), (3, .int .i64 0), (5, .bx 28 h28 0), (6, .bx 6 h6 0), (7, .int .i64 i), (8, .ref true [.bool en, .sl true false (ints ef), .sl true false (ints el)]), (9, .int .i64 j)], [(2, (h2, .box [.sl true true [], .sl true true []])), (6, (h6, .box [.sl true false (ints fi'), .sl true true []])), (28, (h28, .box [.osl 901 h1 0 Q.length])), (901, (h1, .row 9 (poss (mrk (el.take j) Q))))])) (fun j => j ≤ el.length) (fun j => el.length - j) 0 (Nat.zero_le _) rfl ?_
        rintro j hj ih2
        simp only at hj ih2 ⊢
        by_cases hlj : j < el.length
        · have d4 : (j : Int) < el.length := by omega
          have d5 : (0 : Int) ≤ j := by omega
          have d6 : (j : Int) + 1 = ((j + 1 : Nat) : Int) := by omega
          obtain ⟨kd, hkd⟩ : ∃ kd, el[j]? = some kd := ⟨_, List.getElem?_eq_getElem hlj⟩
          have hkb := helb kd (List.mem_of_getElem? hkd)
          obtain ⟨k, rfl⟩ : ∃ k : Nat, kd = k := ⟨kd.toNat, by omega⟩
          have hst : mrk (el.take (j + 1)) Q = mrk1 (mrk (el.take j) Q) k := by rw [take_one hkd]; simp [mrk]
          have hql := mrk_len (el.take j) Q
          generalize mrk (el.take j) Q = V at hst hql
          have m1 : k < V.length := by omega
          have m2 : (k : Int) < Q.length := by omega
          have m3 : (0 : Int) ≤ k := by omega
          obtain ⟨y, hy⟩ : ∃ y, V[k]? = some y := ⟨_, List.getElem?_eq_getElem m1⟩
          rw [mrk1, Int.toNat_natCast, modify_get _ hy] at hst
          obtain ⟨⟨sa, sb, sc, sd⟩, lo, hi', rule, last, next⟩ := y
          simp only at hst
          repeat' (first
  | refine gSq ?_ | refine gSk ?_ | refine gBl ?_ | refine gIb ?_ | refine gEx rfl ?_
  | ((first
  | (refine gRg [] [0, 2, 3, 4, 5, 6, 7, 8, 9, 12, 17, 25, 33, 59, 78] ?_; intro K hK)
  | (refine gDr 13 [] 12 [0, 1, 2, 3, 4, 5, 6, 7, 8, 9, 10, 11, 12, 13, 14] [0, 2, 3, 4, 5, 6, 7, 8, 9, 12, 17, 25, 33, 59, 78] rfl ?_; intro K hK)
  | (refine gDr 18 [] 11 [0, 1, 2, 3, 4, 5, 6, 7, 8, 9, 10, 11] [0, 2, 3, 4, 5, 6, 7, 8, 9, 12, 17, 25, 33, 59, 78] rfl ?_; intro K hK)
  | (refine gd_split ?_ ?_ <;> intro hb <;> (try simp only [bls] at hb) <;> (try simp only [hb]))
  | refine gRt [] [.cell 2 26, .tmp 3] rfl ?_ | refine gDn [] [.cell 2 26, .tmp 3] rfl ?_) <;> (try simp only [go_sem, simprocAttr, d4, d5, d6, m1, m2, m3, hkd, hy, Option.some.injEq, forall_eq']))
  | (refine hK _ _ ?_; clear hK K; simp only [go_sem, simprocAttr])
  | refine gCd (by simp only [go_sem, simprocAttr]; rfl) rfl ?_
  | refine brT ?_ | refine brF ?_
  | (refine brS ?_ ?_ <;> intro hc <;> (try simp only [bls] at hc) <;> (try simp only [hc, bls]))
  | intro _ | refine And.intro ?_ ?_)
          all_goals first | omega | (unfold bigLen; omega) | exact ⟨_, _, ⟨rfl, rfl⟩, rfl⟩ | exact ⟨_, rfl⟩ | (rename_i hy; simp only [List.mem_singleton] at hy; subst hy; rfl) | with_reducible rfl | skip
          rename_i z hz
          have hz2 : z = Po.cells ⟨⟨sa, sb, sc, sd⟩, lo, hi', rule, last, next⟩ := by rw [List.getElem?_map, hy] at hz; exact (Option.some.inj hz).symm
          subst hz2
          refine AGood.filt [2, 6, 28, 901] ?_
          simp only [sf_cons, sf_nil, go_sem, simprocAttr]
          refine AGood.prune [0, 2, 3, 5, 6, 7, 8, 9] ?_; simp only [go_sem, simprocAttr]
          exact AGood.cast (ih2 (j + 1) (by omega) (by omega)) rfl (by rw [hst]; simp [List.map_set])
        · have d4 : ¬ (j : Int) < el.length := by omega
          rw [List.take_of_length_le (by omega)]
          clear ih2
          have hql := mrk_len el Q
          have hqr := rn_mrk el q1
          generalize mrk el Q = V at hrun hql hqr ⊢
          by_cases hbig : 512 < Q.length
          · rw [if_pos hbig] at hrun
            subst hrun
            have e9 : (512 : Int) < Q.length := by omega
            repeat' (first
  | refine gSq ?_ | refine gSk ?_ | refine gBl ?_ | refine gIb ?_ | refine gEx rfl ?_
  | ((first
  | (refine gRg [] [0, 2, 3, 4, 5, 6, 7, 8, 9, 12, 17, 25, 33, 59, 78] ?_; intro K hK)
  | (refine gDr 13 [] 12 [0, 1, 2, 3, 4, 5, 6, 7, 8, 9, 10, 11, 12, 13, 14] [0, 2, 3, 4, 5, 6, 7, 8, 9, 12, 17, 25, 33, 59, 78] rfl ?_; intro K hK)
  | (refine gDr 18 [] 11 [0, 1, 2, 3, 4, 5, 6, 7, 8, 9, 10, 11] [0, 2, 3, 4, 5, 6, 7, 8, 9, 12, 17, 25, 33, 59, 78] rfl ?_; intro K hK)
  | (refine gd_split ?_ ?_ <;> intro hb <;> (try simp only [bls] at hb) <;> (try simp only [hb]))
  | refine gRt [] [.cell 2 26, .tmp 3] rfl ?_ | refine gDn [] [.cell 2 26, .tmp 3] rfl ?_) <;> (try simp only [go_sem, simprocAttr, d4, e9, AVal.isCell]))
  | (refine hK _ _ ?_; clear hK K; simp only [go_sem, simprocAttr])
  | refine gCd (by simp only [go_sem, simprocAttr]; rfl) rfl ?_
  | refine brT ?_ | refine brF ?_
  | (refine brS ?_ ?_ <;> intro hc <;> (try simp only [bls] at hc) <;> (try simp only [hc, bls]))
  | intro _ | refine And.intro ?_ ?_)
            all_goals first | omega | (unfold bigLen; omega) | exact ⟨_, _, ⟨rfl, rfl⟩, rfl⟩ | exact ⟨_, rfl⟩ | (rename_i hy; simp only [List.mem_singleton] at hy; subst hy; rfl) | with_reducible rfl | skip
            all_goals exact ⟨_, _, rfl⟩
          · rw [if_neg hbig] at hrun
            have e9 : ¬ (512 : Int) < Q.length := by omega
            repeat' (first
  | refine gSq ?_ | refine gSk ?_ | refine gBl ?_ | refine gIb ?_ | refine gEx rfl ?_
  | ((first
  | (refine gRg [] [0, 2, 3, 4, 5, 6, 7, 8, 9, 12, 17, 25, 33, 59, 78] ?_; intro K hK)
  | (refine gDr 13 [] 12 [0, 1, 2, 3, 4, 5, 6, 7, 8, 9, 10, 11, 12, 13, 14] [0, 2, 3, 4, 5, 6, 7, 8, 9, 12, 17, 25, 33, 59, 78] rfl ?_; intro K hK)
  | (refine gDr 18 [] 11 [0, 1, 2, 3, 4, 5, 6, 7, 8, 9, 10, 11] [0, 2, 3, 4, 5, 6, 7, 8, 9, 12, 17, 25, 33, 59, 78] rfl ?_; intro K hK)
  | (refine gd_split ?_ ?_ <;> intro hb <;> (try simp only [bls] at hb) <;> (try simp only [hb]))
  | refine gRt [] [.cell 2 26, .tmp 3] rfl ?_ | refine gDn [] [.cell 2 26, .tmp 3] rfl ?_) <;> (try simp only [go_sem, simprocAttr, d4, e6, e9]))
  | (refine hK _ _ ?_; clear hK K; simp only [go_sem, simprocAttr])
  | refine gCd (by simp only [go_sem, simprocAttr]; rfl) rfl ?_
  | refine brT ?_ | refine brF ?_
  | (refine brS ?_ ?_ <;> intro hc <;> (try simp only [bls] at hc) <;> (try simp only [hc, bls]))
  | intro _ | refine And.intro ?_ ?_)
            all_goals first | omega | (unfold bigLen; omega) | exact ⟨_, _, ⟨rfl, rfl⟩, rfl⟩ | exact ⟨_, rfl⟩ | (rename_i hy; simp only [List.mem_singleton] at hy; subst hy; rfl) | with_reducible rfl | skip
            refine AGood.filt [2, 6, 28, 901] ?_
            simp only [sf_cons, sf_nil, go_sem, simprocAttr]
            refine AGood.prune [0, 2, 3, 5, 6, 7] ?_; simp only [go_sem, simprocAttr]
            exact AGood.cast (ih (i + 1, h1, V, fi', false) ⟨by simp only; omega, by simp only; omega, by rw [← hql] at hqr; exact hqr, by simp only; rw [hql]; exact hfi, hrun⟩ (by simp only; omega)) rfl (by simp only [hql])
    · have e4 : ¬ (i : Int) < ls.length := by omega
      rw [List.drop_of_length_le (by omega), goO] at hrun
      subst hrun
      clear ih hO
      simp only
      have c15 : (poss ps).take ps.length = poss ps := List.take_of_length_le (by simp)
      repeat' (first
  | refine gSq ?_ | refine gSk ?_ | refine gBl ?_ | refine gIb ?_ | refine gEx rfl ?_
  | ((first
  | (refine AGood.at 21 ?_; (refine AGood.freeze 901 rfl ?_; simp only [rfT, rfS, rfO, rf, rf1, c15, List.length_map, Nat.le_refl, true_and, go_sem, simprocAttr]); (refine gRg [] [0, 2, 3, 4, 5, 6, 7, 8, 9, 12, 17, 25, 33, 59, 78] ?_; intro K hK))
  | (refine gRg [] [0, 2, 3, 4, 5, 6, 7, 8, 9, 12, 17, 25, 33, 59, 78] ?_; intro K hK)
  | (refine gDr 13 [] 12 [0, 1, 2, 3, 4, 5, 6, 7, 8, 9, 10, 11, 12, 13, 14] [0, 2, 3, 4, 5, 6, 7, 8, 9, 12, 17, 25, 33, 59, 78] rfl ?_; intro K hK)
  | (refine gDr 18 [] 11 [0, 1, 2, 3, 4, 5, 6, 7, 8, 9, 10, 11] [0, 2, 3, 4, 5, 6, 7, 8, 9, 12, 17, 25, 33, 59, 78] rfl ?_; intro K hK)
  | (refine gd_split ?_ ?_ <;> intro hb <;> (try simp only [bls] at hb) <;> (try simp only [hb]))
  | refine gRt [] [.cell 2 26, .tmp 3] rfl ?_ | refine gDn [] [.cell 2 26, .tmp 3] rfl ?_) <;> (try simp only [go_sem, simprocAttr, e4, AVal.isCell]))
  | (refine hK _ _ ?_; clear hK K; simp only [go_sem, simprocAttr])
  | refine gCd (by simp only [go_sem, simprocAttr]; rfl) rfl ?_
  | refine brT ?_ | refine brF ?_
  | (refine brS ?_ ?_ <;> intro hc <;> (try simp only [bls] at hc) <;> (try simp only [hc, bls]))
  | intro _ | refine And.intro ?_ ?_)
      all_goals first | omega | (unfold bigLen; omega) | exact ⟨_, _, ⟨rfl, rfl⟩, rfl⟩ | exact ⟨_, rfl⟩ | (rename_i hy; simp only [List.mem_singleton] at hy; subst hy; rfl) | with_reducible rfl | skip
      all_goals exact ⟨_, _, rfl⟩
theorem rof9uc (f : Bool) (ls : List (List Node)) (hll : ls.length ≤ 1000000) (hnd : ∀ x ∈ ls, x.length ≤ maxLen ∧ ndOk x) :
    ACall Tryz.prog 7 [.sl true f (trees ls)] [] fun r s => r = .tup [.agg [.sl true false (ints (ofG ls).1), .sl true false (poss (ofG ls).2.1)], .int .i64 (ofG ls).2.2] ∧ s = [] := by
  refine (rof9f_c f ls hll hnd).post fun G w r s v hw hs hr hR => ?_
  obtain ⟨⟨b1, b2, rfl⟩, rfl⟩ := hR
  exact ⟨G, _, _, .refl G, hw, hs, rep_pair hr, rfl, rfl⟩
end Go.Rad
/- Contracts: the first plans that are not great. -/
namespace Go.Rad
open Go Go.Proofs
set_option linter.all false
set_option maxRecDepth 20000
set_option maxHeartbeats 4000000

def fewS : Nat → List (List Node) → List (List Node)
  | _, [] => []
  | i, x :: l => (if i < 6 ∧ x.length ≤ 200 then [x] else []) ++ fewS (i + 1) l
theorem fewS_in : ∀ (l : List (List Node)) (i : Nat), (∀ x ∈ fewS i l, x ∈ l ∧ x.length ≤ 200) ∧ (fewS i l).length ≤ 6 - i
  | [], i => ⟨fun x hx => by simp [fewS] at hx, by simp [fewS]⟩
  | y :: l, i => by
    obtain ⟨h1, h2⟩ := fewS_in l (i + 1)
    refine ⟨fun x hx => ?_, ?_⟩
    · rw [fewS, List.mem_append] at hx
      rcases hx with hx | hx
      · split at hx
        · rename_i hc; rw [List.mem_singleton.1 hx]; exact ⟨by simp, hc.2⟩
        · simp at hx
      · exact ⟨by simp [(h1 x hx).1], (h1 x hx).2⟩
    · rw [fewS, List.length_append]
      split
      · rename_i hc; simp only [List.length_cons, List.length_nil]; omega
      · simp only [List.length_nil]; omega
theorem few_c (f : Bool) (l : List (List Node)) (hl : l.length ≤ maxLen) (hx : ∀ x ∈ l, x.length ≤ maxLen) :
    ACall Tryz.prog 6 [.sl true f (trees l)] [] fun r s => r = .sl true false (trees (fewS 0 l)) ∧ s = [] := by
  obtain ⟨S, hS⟩ : ∃ S, S = fewS 0 l := ⟨_, rfl⟩
  rw [← hS]
  unfold maxLen at hl hx
  refine ACall.enter Tryz.func6 rfl (by kernel_rfl) (Nat.le_of_ble_eq_true rfl) ?_; simp only [initTm, Nat.reduceAdd]
  repeat' (first
  | refine gSq ?_ | refine gSk ?_ | refine gBl ?_ | refine gIb ?_ | refine gEx rfl ?_
  | ((first
  | (refine gRg [] [0, 2, 3, 4, 5, 6, 7, 8, 9, 19] ?_; intro K hK)
  | (refine gd_split ?_ ?_ <;> intro hb <;> (try simp only [bls] at hb) <;> (try simp only [hb]))
  | refine gRt [] [.tmp 2] rfl ?_ | refine gDn [] [.tmp 2] rfl ?_) <;> (try simp only [go_sem, simprocAttr]))
  | (refine hK _ _ ?_; clear hK K; simp only [go_sem, simprocAttr])
  | refine gCd (by simp only [go_sem, simprocAttr]; rfl) rfl ?_
  | refine brT ?_ | refine brF ?_
  | (refine brS ?_ ?_ <;> intro hc <;> (try simp only [bls] at hc) <;> (try simp only [hc, bls]))
  | intro _ | refine And.intro ?_ ?_)
  all_goals first | omega | (unfold bigLen; omega) | exact ⟨_, _, ⟨rfl, rfl⟩, rfl⟩ | exact ⟨_, rfl⟩ | (rename_i hy; simp only [List.mem_singleton] at hy; subst hy; rfl) | with_reducible rfl | skip
  refine AGood.ownTm 3 900 1 (by decide) rfl fun g9 => ?_
  simp only [go_sem, simprocAttr]
  refine AGood.prune [0, 3, 6, 7, 8] ?_; simp only [go_sem, simprocAttr]
  refine AGood.loopInv (α := Nat × Nat × List (List Node)) (fun z => ([(0, .sl true f (trees l)), (3, .osl 900 z.2.1 0 z.2.2.length), (6, .sl true f (trees l)), (7, .int .i64 l.length), (8, .int .i64 z.1)], [(900, (z.2.1, .row 1 (trees z.2.2)))])) (fun z => z.1 ≤ l.length ∧ z.2.2.length ≤ z.1 ∧ S = z.2.2 ++ fewS z.1 (l.drop z.1)) (fun z => l.length - z.1) (0, g9, []) ⟨Nat.zero_le _, Nat.le_refl _, hS⟩ rfl ?_
  rintro ⟨i, g9, o⟩ ⟨hi, hol, hrun⟩ ih
  simp only at hi hol hrun ih ⊢
  by_cases hle : i < l.length
  · have e4 : (i : Int) < l.length := by omega
    have e5 : (0 : Int) ≤ i := by omega
    have e6 : (i : Int) + 1 = ((i + 1 : Nat) : Int) := by omega
    obtain ⟨x, hx1⟩ : ∃ x, l[i]? = some x := ⟨_, List.getElem?_eq_getElem hle⟩
    have hx2 := hx x (List.mem_of_getElem? hx1)
    have hdr : l.drop i = x :: l.drop (i + 1) := by
      obtain ⟨h1, h2⟩ := List.getElem?_eq_some_iff.1 hx1
      rw [List.drop_eq_getElem_cons h1, h2]
    rw [hdr, fewS] at hrun
    by_cases h6 : i < 6
    · have e7 : (i : Int) < 6 := by omega
      by_cases h200 : x.length ≤ 200
      · have e8 : (x.length : Int) ≤ 200 := by omega
        rw [if_pos ⟨h6, h200⟩] at hrun
        repeat' (first
  | refine gSq ?_ | refine gSk ?_ | refine gBl ?_ | refine gIb ?_ | refine gEx rfl ?_
  | ((first
  | (refine gRg [22] [0, 2, 3, 4, 5, 6, 7, 8, 9, 19] ?_; intro K hK)
  | (refine gd_split ?_ ?_ <;> intro hb <;> (try simp only [bls] at hb) <;> (try simp only [hb]))
  | refine gRt [] [.tmp 2] rfl ?_ | refine gDn [] [.tmp 2] rfl ?_) <;> (try simp only [go_sem, simprocAttr, e4, e5, e6, e7, e8, hx1, Option.some.injEq, forall_eq']))
  | (refine hK _ _ ?_; clear hK K; simp only [go_sem, simprocAttr])
  | refine gCd (by simp only [go_sem, simprocAttr]; rfl) rfl ?_
  | refine brT ?_ | refine brF ?_
  | (refine brS ?_ ?_ <;> intro hc <;> (try simp only [bls] at hc) <;> (try simp only [hc, bls]))
  | intro _ | refine And.intro ?_ ?_)
        all_goals first | omega | (unfold bigLen; omega) | exact ⟨_, _, ⟨rfl, rfl⟩, rfl⟩ | exact ⟨_, rfl⟩ | (rename_i hy; simp only [List.mem_singleton] at hy; subst hy; rfl) | with_reducible rfl | skip
        rename_i h9
        refine AGood.filt [900] ?_
        simp only [sf_cons, sf_nil, go_sem, simprocAttr]
        refine AGood.prune [0, 3, 6, 7, 8] ?_; simp only [go_sem, simprocAttr]
        exact AGood.cast (ih (i + 1, h9, o ++ [x]) ⟨by simp only; omega, by simp; omega, by simp only [hrun, List.append_assoc]⟩ (by simp only; omega)) (by simp) (by simp)
      · have e8 : ¬ (x.length : Int) ≤ 200 := by omega
        rw [if_neg (fun h => h200 h.2), List.nil_append] at hrun
        repeat' (first
  | refine gSq ?_ | refine gSk ?_ | refine gBl ?_ | refine gIb ?_ | refine gEx rfl ?_
  | ((first
  | (refine gRg [] [0, 2, 3, 4, 5, 6, 7, 8, 9, 19] ?_; intro K hK)
  | (refine gd_split ?_ ?_ <;> intro hb <;> (try simp only [bls] at hb) <;> (try simp only [hb]))
  | refine gRt [] [.tmp 2] rfl ?_ | refine gDn [] [.tmp 2] rfl ?_) <;> (try simp only [go_sem, simprocAttr, e4, e5, e6, e7, e8, hx1, Option.some.injEq, forall_eq']))
  | (refine hK _ _ ?_; clear hK K; simp only [go_sem, simprocAttr])
  | refine gCd (by simp only [go_sem, simprocAttr]; rfl) rfl ?_
  | refine brT ?_ | refine brF ?_
  | (refine brS ?_ ?_ <;> intro hc <;> (try simp only [bls] at hc) <;> (try simp only [hc, bls]))
  | intro _ | refine And.intro ?_ ?_)
        all_goals first | omega | (unfold bigLen; omega) | exact ⟨_, _, ⟨rfl, rfl⟩, rfl⟩ | exact ⟨_, rfl⟩ | (rename_i hy; simp only [List.mem_singleton] at hy; subst hy; rfl) | with_reducible rfl | skip
        refine AGood.prune [0, 3, 6, 7, 8] ?_; simp only [go_sem, simprocAttr]
        exact AGood.cast (ih (i + 1, g9, o) ⟨by simp only; omega, by simp only; omega, hrun⟩ (by simp only; omega)) rfl rfl
    · have e7 : ¬ (i : Int) < 6 := by omega
      rw [if_neg (fun h => h6 h.1), List.nil_append] at hrun
      repeat' (first
  | refine gSq ?_ | refine gSk ?_ | refine gBl ?_ | refine gIb ?_ | refine gEx rfl ?_
  | ((first
  | (refine gRg [] [0, 2, 3, 4, 5, 6, 7, 8, 9, 19] ?_; intro K hK)
  | (refine gd_split ?_ ?_ <;> intro hb <;> (try simp only [bls] at hb) <;> (try simp only [hb]))
  | refine gRt [] [.tmp 2] rfl ?_ | refine gDn [] [.tmp 2] rfl ?_) <;> (try simp only [go_sem, simprocAttr, e4, e5, e6, e7, hx1, Option.some.injEq, forall_eq']))
  | (refine hK _ _ ?_; clear hK K; simp only [go_sem, simprocAttr])
  | refine gCd (by simp only [go_sem, simprocAttr]; rfl) rfl ?_
  | refine brT ?_ | refine brF ?_
  | (refine brS ?_ ?_ <;> intro hc <;> (try simp only [bls] at hc) <;> (try simp only [hc, bls]))
  | intro _ | refine And.intro ?_ ?_)
      all_goals first | omega | (unfold bigLen; omega) | exact ⟨_, _, ⟨rfl, rfl⟩, rfl⟩ | exact ⟨_, rfl⟩ | (rename_i hy; simp only [List.mem_singleton] at hy; subst hy; rfl) | with_reducible rfl | skip
      refine AGood.prune [0, 3, 6, 7, 8] ?_; simp only [go_sem, simprocAttr]
      exact AGood.cast (ih (i + 1, g9, o) ⟨by simp only; omega, by simp only; omega, hrun⟩ (by simp only; omega)) rfl rfl
  · have e4 : ¬ (i : Int) < l.length := by omega
    rw [List.drop_of_length_le (by omega), fewS, List.append_nil] at hrun
    subst hrun
    clear ih
    have c15 : (trees S).take S.length = trees S := List.take_of_length_le (by simp)
    repeat' (first
  | refine gSq ?_ | refine gSk ?_ | refine gBl ?_ | refine gIb ?_ | refine gEx rfl ?_
  | ((first
  | (refine AGood.at 8 ?_; (refine AGood.freeze 900 rfl ?_; simp only [rfT, rfS, rfO, rf, rf1, c15, List.length_map, Nat.le_refl, true_and, go_sem, simprocAttr]); (refine gRg [] [0, 2, 3, 4, 5, 6, 7, 8, 9, 19] ?_; intro K hK))
  | (refine gRg [] [0, 2, 3, 4, 5, 6, 7, 8, 9, 19] ?_; intro K hK)
  | (refine gd_split ?_ ?_ <;> intro hb <;> (try simp only [bls] at hb) <;> (try simp only [hb]))
  | refine gRt [] [.tmp 2] rfl ?_ | refine gDn [] [.tmp 2] rfl ?_) <;> (try simp only [go_sem, simprocAttr, e4]))
  | (refine hK _ _ ?_; clear hK K; simp only [go_sem, simprocAttr])
  | refine gCd (by simp only [go_sem, simprocAttr]; rfl) rfl ?_
  | refine brT ?_ | refine brF ?_
  | (refine brS ?_ ?_ <;> intro hc <;> (try simp only [bls] at hc) <;> (try simp only [hc, bls]))
  | intro _ | refine And.intro ?_ ?_)
    all_goals first | omega | (unfold bigLen; omega) | exact ⟨_, _, ⟨rfl, rfl⟩, rfl⟩ | exact ⟨_, rfl⟩ | (rename_i hy; simp only [List.mem_singleton] at hy; subst hy; rfl) | with_reducible rfl | skip
end Go.Rad
/- Places of plans behind others: shifted. -/
namespace Go.Rad
open Go Fo
abbrev shL (d : Nat) (l : List Int) : List Int := l.map fun x => x + (d : Int)
def shP (d : Nat) (r : Int) (p : Po) : Po := { p with next := shL d p.next, rule := r }
def shE (d : Nat) (e : En) : En := ⟨e.null, shL d e.first, shL d e.last⟩
theorem insD_sh (d x : Int) : ∀ l : List Int, insD (x + d) (l.map fun y => y + d) = (insD x l).map fun y => y + d
  | [] => rfl
  | y :: l => by
    simp only [List.map_cons, insD]
    by_cases h : x < y
    · rw [if_pos (by omega), if_pos h]; rfl
    · rw [if_neg (by omega), if_neg h]
      by_cases h2 : x = y
      · rw [if_pos (by omega), if_pos h2]; rfl
      · rw [if_neg (by omega), if_neg h2, insD_sh d x l]; rfl
theorem uni_sh0 (d : Int) : ∀ l : List Int, (l.map fun y => y + d).foldr insD [] = (l.foldr insD []).map fun y => y + d
  | [] => rfl
  | x :: l => by rw [List.map_cons, List.foldr_cons, List.foldr_cons, uni_sh0 d l, insD_sh]
theorem uni_sh (d : Nat) (a b : List Int) : uni (shL d a) (shL d b) = shL d (uni a b) := by
  rw [uni, uni, shL, shL, ← List.map_append, uni_sh0]
theorem modify_app {α : Type} (f : α → α) (b : List α) (k : Nat) : ∀ a : List α, (a ++ b).modify (a.length + k) f = a ++ b.modify k f
  | [] => by simp
  | x :: a => by
    rw [List.length_cons, show a.length + 1 + k = (a.length + k) + 1 by omega, List.cons_append, List.modify_succ_cons, modify_app f b k a, List.cons_append]
theorem modify_map {α β : Type} {g : α → β} {f : α → α} {f' : β → β} (h : ∀ x, f' (g x) = g (f x)) : ∀ (l : List α) (k : Nat), (l.map g).modify k f' = (l.modify k f).map g
  | [], k => by simp
  | x :: l, 0 => by simp [h]
  | x :: l, k + 1 => by simp [modify_map h l k]
section
variable {ps : List Po} {r : Int}
/-- Places behind others. -/
abbrev beh (ps : List Po) (r : Int) (Q : List Po) : List Po := ps ++ Q.map (shP ps.length r)
theorem lnk1ush {to : List Int} {i : Int} (hi : 0 ≤ i) (Q : List Po) : lnk1 (shL ps.length to) (beh ps r Q) (i + ps.length) = beh ps r (lnk1 to Q i) := by
  unfold lnk1 beh
  rw [show (i + (ps.length : Int)).toNat = ps.length + i.toNat by omega, modify_app, modify_map (f := fun p => { p with next := uni p.next to })]
  intro p
  simp only [shP, uni_sh]
theorem lnk_sh {to : List Int} : ∀ (fr : List Int) (Q : List Po), (∀ x ∈ fr, 0 ≤ x) → lnk (shL ps.length fr) (shL ps.length to) (beh ps r Q) = beh ps r (lnk fr to Q)
  | [], _, _ => rfl
  | i :: fr, Q, h => by
    have := lnk_sh (to := to) fr (lnk1 to Q i) fun x hx => h x (by simp [hx])
    simp only [lnk] at this ⊢
    rw [show shL ps.length (i :: fr) = (i + (ps.length : Int)) :: shL ps.length fr from rfl, List.foldl_cons, List.foldl_cons, lnk1ush (h i (by simp)), this]
theorem mrk_sh : ∀ (l : List Int) (Q : List Po), (∀ x ∈ l, 0 ≤ x) → mrk (shL ps.length l) (beh ps r Q) = beh ps r (mrk l Q)
  | [], _, _ => rfl
  | i :: l, Q, h => by
    have := mrk_sh l (mrk1 Q i) fun x hx => h x (by simp [hx])
    have hi := h i (by simp)
    have h1 : mrk1 (beh ps r Q) (i + ps.length) = beh ps r (mrk1 Q i) := by
      unfold mrk1 beh
      rw [show (i + (ps.length : Int)).toNat = ps.length + i.toNat by omega, modify_app, modify_map (f := fun p => { p with last := true })]
      intro p
      rfl
    simp only [mrk] at this ⊢
    rw [show shL ps.length (i :: l) = (i + (ps.length : Int)) :: shL ps.length l from rfl, List.foldl_cons, List.foldl_cons, h1, this]
theorem putG_sh (p : Po) (Q : List Po) (h : p.next = []) : putG (shP 0 r p) (beh ps r Q) = (beh ps r (putG p Q).1, shE ps.length (putG p Q).2) := by
  have h1 : shP 0 r p = shP ps.length r p := by simp [shP, h, shL]
  rw [h1]
  simp only [putG, beh, shE, shL, List.map_append, List.map_cons, List.map_nil, List.length_append, List.length_map, List.append_assoc]
  rw [show ((ps.length + Q.length : Nat) : Int) = (Q.length : Int) + ps.length by omega]
theorem thenE_sh (x y : En) : thenE (shE ps.length x) (shE ps.length y) = shE ps.length (thenE x y) := by
  obtain ⟨a, b, c⟩ := x
  obtain ⟨a', b', c'⟩ := y
  cases a <;> cases a' <;> simp [thenE, shE, uni_sh]
theorem thenG_sh {s : List Po × En} {y : En} (h : Re s.1.length s.2) : thenG (beh ps r s.1, shE ps.length s.2) (shE ps.length y) = (beh ps r (thenG s y).1, shE ps.length (thenG s y).2) := by
  unfold thenG
  rw [thenE_sh]
  refine Prod.ext ?_ rfl
  exact lnk_sh _ _ fun x hx => (h.2.2 x hx).1
theorem catG_sh : ∀ (ks : List En) {s : List Po × En}, Rn s.1.length s.1 → Re s.1.length s.2 → (∀ y ∈ ks, Re s.1.length y) →
    (ks.map (shE ps.length)).foldl thenG (beh ps r s.1, shE ps.length s.2) = (beh ps r (ks.foldl thenG s).1, shE ps.length (ks.foldl thenG s).2)
  | [], s, _, _, _ => rfl
  | y :: ks, s, h1, h2, h3 => by
    obtain ⟨a, b, c⟩ := thenG_ok h1 h2 (h3 y (by simp))
    rw [List.map_cons, List.foldl_cons, List.foldl_cons, thenG_sh h2]
    exact catG_sh ks (s := thenG s y) (by rw [a]; exact b) (by rw [a]; exact c) fun z hz => by rw [a]; exact h3 z (by simp [hz])
theorem altG_sh (d : Nat) : ∀ (ks : List En) (x : En), (ks.map (shE d)).foldl orE (shE d x) = shE d (ks.foldl orE x)
  | [], _ => rfl
  | y :: ks, x => by
    have : orE (shE d x) (shE d y) = shE d (orE x y) := by simp only [orE, shE, uni_sh]
    rw [List.map_cons, List.foldl_cons, List.foldl_cons, this, altG_sh d ks]
theorem headD_sh (d : Nat) (ks : List En) : (ks.map (shE d)).headD enN = shE d (ks.headD enN) := by cases ks <;> rfl
theorem nodeG_sh {b : Lb} {s : ISet} {ks : List En} {Q : List Po} (h : Rn Q.length Q) (hk : ∀ y ∈ ks, Re Q.length y) :
    nodeG r b s (ks.map (shE ps.length)) (beh ps r Q) = (beh ps r (nodeG 0 b s ks Q).1, shE ps.length (nodeG 0 b s ks Q).2) := by
  unfold nodeG
  split
  · rfl
  · split
    · exact putG_sh ⟨_, 1, 1, 0, false, []⟩ Q rfl
    · split
      · split
        · exact putG_sh ⟨_, _, _, 0, false, []⟩ Q rfl
        · have hx : Re Q.length (ks.headD enN) := by
            cases ks with
            | nil => exact re_nil _ _
            | cons x ks => exact hk x (by simp)
          rw [headD_sh]
          refine Prod.ext ?_ rfl
          exact lnk_sh _ _ fun x hx' => (hx.2.2 x hx').1
      · split
        · exact catG_sh ks (s := (Q, ⟨true, [], []⟩)) h (re_nil _ _) hk
        · exact Prod.ext rfl (altG_sh ps.length ks enN)
theorem getD_sh (d : Nat) (al : List En) (i : Nat) : (al.map (shE d)).getD i enN = shE d (al.getD i enN) := by
  rw [List.getD_eq_getElem?_getD, List.getD_eq_getElem?_getD, List.getElem?_map]
  cases al[i]? <;> rfl
theorem stepG_sh {l : List Node} {s : List Po × List En} {n : Node} (h : SOk s) : stepG l r (beh ps r s.1, s.2.map (shE ps.length)) n = (beh ps r (stepG l 0 s n).1, (stepG l 0 s n).2.map (shE ps.length)) := by
  unfold stepG
  simp only [List.length_map]
  split
  · rw [List.map_append]; rfl
  · have hm : (n.l.map fun k => (s.2.map (shE ps.length)).getD k.toNat enN) = (n.l.map fun k => s.2.getD k.toNat enN).map (shE ps.length) := by
      rw [List.map_map]
      exact List.map_congr_left fun k _ => getD_sh _ _ _
    rw [hm, nodeG_sh h.1 fun y hy => by
      obtain ⟨k, _, rfl⟩ := List.mem_map.1 hy
      exact getD_ok h.2 _]
    simp only [List.map_append, List.map_cons, List.map_nil]
theorem runG_sh (l : List Node) : ∀ (m : List Node) {s : List Po × List En}, SOk s → m.foldl (stepG l r) (beh ps r s.1, s.2.map (shE ps.length)) = (beh ps r (m.foldl (stepG l 0) s).1, (m.foldl (stepG l 0) s).2.map (shE ps.length))
  | [], _, _ => rfl
  | n :: m, s, h => by
    rw [List.foldl_cons, List.foldl_cons, stepG_sh h]
    exact runG_sh l m (stepG_ok h).1
end
/-- One plan's places behind others. -/
theorem one_sh (x : List Node) (r : Nat) (ps : List Po) : oneO x r ps = (beh ps r (oneO x 0 []).1, shE ps.length (oneO x 0 []).2) := by
  have h0 : SOk (([], []) : List Po × List En) := ⟨fun p hp => by simp at hp, fun e he => by simp at he⟩
  have h1 : listG x r ps = (beh ps r (listG x 0 []).1, (listG x 0 []).2.map (shE ps.length)) := by
    have := runG_sh (ps := ps) (r := (r : Int)) x x h0
    simpa [beh, listG] using this
  have h2 : (listG x r ps).2.getLastD enN = shE ps.length ((listG x 0 []).2.getLastD enN) := by
    rw [h1]
    simp only [List.getLastD_eq_getLast?, List.getLast?_map]
    cases (listG x 0 []).2.getLast? <;> rfl
  obtain ⟨a, b, _, _⟩ := list_ok (x := x) (r := 0) (ps := []) h0.1
  refine Prod.ext ?_ h2
  show mrk ((listG x r ps).2.getLastD enN).last (listG x r ps).1 = _
  rw [h2, h1]
  exact mrk_sh _ _ fun y hy => (b.2.2 y hy).1
theorem shE_first (d : Nat) (e : En) : (shE d e).first = shL d e.first := rfl
/-- First places of plans behind others come behind theirs. -/
theorem uni_beh {d n : Nat} {fi l : List Int} (h : Rs d fi) (h2 : Rs n l) : uni fi (shL d l) = fi ++ shL d l := by
  have hb : ∀ x ∈ shL d l, 0 ≤ x ∧ x < ((n + d : Nat) : Int) := fun x hx => by
    obtain ⟨y, hy, rfl⟩ := List.mem_map.1 hx
    have := h2.2 y hy
    omega
  obtain ⟨g1, g2⟩ := uni_eq (n := n + d) (a := fi) (b := shL d l) (fun x hx => by have := h.2 x hx; omega) hb
  refine rise_ext g1.1 ?_ fun x => by rw [g2, List.mem_append]
  rw [List.pairwise_append]
  refine ⟨h.1, ?_, fun x hx y hy => ?_⟩
  · rw [shL, List.pairwise_map]
    exact h2.1.imp fun h => by omega
  · obtain ⟨z, hz, rfl⟩ := List.mem_map.1 hy
    have := h.2 x hx
    have := h2.2 z hz
    omega
theorem beh_len (ps : List Po) (r : Int) (Q : List Po) : (beh ps r Q).length = ps.length + Q.length := by simp [beh]
/-- One plan more. -/
theorem apart_go {x : List Node} {xs : List (List Node)} {i : Nat} {ps P : List Po} {fi F : List Int} (hr : rightP x = true) (hrn : Rn ps.length ps) (hfi : Rs ps.length fi) (h : goO i (x :: xs) ps fi = some (P, F)) :
    ∃ f0 Q, ofG [x] = (f0, Q, 0) ∧ goO (i + 1) xs (beh ps i Q) (fi ++ shL ps.length f0) = some (P, F) ∧ Rn (beh ps i Q).length (beh ps i Q) ∧ Rs (beh ps i Q).length (fi ++ shL ps.length f0) ∧ (beh ps i Q).length ≤ 512 ∧ Rn Q.length Q ∧ Rs Q.length f0 := by
  have h0 : Rn ([] : List Po).length [] := fun p hp => by simp at hp
  obtain ⟨a1, a2, _, _⟩ := one_ok (x := x) (r := 0) h0
  obtain ⟨b1, b2, _, _⟩ := one_ok (x := x) (r := i) hrn
  have hs := one_sh x i ps
  rw [goO] at h
  rw [hs] at b1 b2 h
  generalize he : oneO x 0 [] = o at *
  obtain ⟨Q, e⟩ := o
  simp only at h a1 a2 b1 b2
  split at h
  · cases h
  · rename_i hl
    have h4 := uni_beh hfi a2.1
    refine ⟨e.first, Q, ?_, ?_, b1, ?_, by omega, a1, a2.1⟩
    · have hl' := beh_len ps i Q
      rw [ofG, if_neg (by simp [hr]), goO, he, if_neg (by simp only; omega), goO, uni_nil a2.1]
    · rw [← h4]; exact h
    · rw [← h4]; exact rs_uni (rs_mono hfi (by rw [beh_len]; omega)) b2.1
theorem ofG_ok {ls : List (List Node)} {F : List Int} {P : List Po} (h : ofG ls = (F, P, 0)) : ls.length ≤ 512 ∧ (∀ x ∈ ls, rightP x = true) ∧ goO 0 ls [] [] = some (P, F) := by
  unfold ofG at h
  split at h
  · cases h
  · rename_i hc
    refine ⟨?_, fun x hx => ?_, ?_⟩
    · cases Nat.lt_or_ge 512 ls.length with
      | inl h => exact absurd (.inl h) hc
      | inr h => exact h
    · cases hr : rightP x with
      | true => rfl
      | false => exact absurd (.inr (List.any_eq_true.2 ⟨x, hx, by simp [hr]⟩)) hc
    · split at h
      · cases h
      · rename_i ps fi hgo
        cases h; exact hgo
theorem goO_ok : ∀ {ls : List (List Node)} {i : Nat} {ps P : List Po} {fi F : List Int}, ps.length ≤ 512 → Rn ps.length ps → Rs ps.length fi → goO i ls ps fi = some (P, F) → P.length ≤ 512 ∧ Rn P.length P ∧ Rs P.length F
  | [], i, ps, P, fi, F, h1, h2, h3, h => by
    rw [goO] at h; cases h; exact ⟨h1, h2, h3⟩
  | x :: ls, i, ps, P, fi, F, h1, h2, h3, h => by
    rw [goO] at h
    obtain ⟨b1, b2, b3, _⟩ := one_ok (x := x) (r := i) h2
    split at h
    · cases h
    · exact goO_ok (by omega) b1 (rs_uni (rs_mono h3 b3) b2.1) h
end Go.Rad
