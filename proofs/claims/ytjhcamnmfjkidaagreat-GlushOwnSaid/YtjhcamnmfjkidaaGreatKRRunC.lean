/- A call on known things, reckoned: the contract. -/
import Derived.Test.YtjhcamnmfjkidaaGreatKRRun
import Derived.Test.YtjhcamnmfjkidaaGreatKRNode
import Derived.Test.YtjhcamnmfjkidaaGreatKRGlob
import Derived.Test.YtjhcamnmfjkidaaGreatKP09l
import Derived.Test.YtjhcamnmfjkidaaGreatKP09r
set_option linter.all false
namespace Go.Rad
open Go
variable {P : Program} {L : Lay}
theorem quiet_ok : Quiet P := fun f args v sto h1 h2 h3 h4 => ACall.alone (ACall.none h4) (map_self fun x hx => tr_flat (List.all_eq_true.1 h1 x hx)) (bk_flat h2) h3
/-- Rows that a result holds are given away. -/
def finCells : AVal → List AVal
  | .tup vs => vs
  | v => [v]
def xFin : Nat → AVal → Sto → Option AVal
  | 0, v, _ => some v
  | k + 1, v, s =>
    match firstOsl (finCells v) with
    | none => some v
    | some id =>
      match sget s id with
      | some (g, .row _ l) => req (okFs id g l.length v && okFS id g l.length (sdel s id)) (xFin k (rf id g l v) (rfS id g l (sdel s id)))
      | _ => none
theorem fin_post {E : Gh} {R : AVal → Prop} {e : Ending} {w' : World} {r : Nat → Nat} : ∀ (k : Nat) {v v' : AVal} {s : Sto}, xFin k v s = some v' → R (mg r v') → Post E (fun v1 s1 => v1 = mg r v ∧ s1 = mgS r s) e w' → Post E (fun v1 _ => R v1) e w'
  | 0, v, v', s, h, hR, hp => by
    simp only [xFin, Option.some.injEq] at h; subst h
    exact hp.mono (.refl E) fun _ _ hx => by rw [hx.1]; exact hR
  | k + 1, v, v', s, h, hR, ⟨G', cr, r1, s1, h1, h2, h3, h4, h5, h6, h7⟩ => by
    simp only [xFin] at h
    split at h
    · cases h; exact ⟨G', cr, r1, s1, h1, h2, h3, h4, h5, by rw [h6]; exact hR⟩
    · split at h
      · rename_i g esz l hg
        simp only [req_iff, Bool.and_eq_true] at h
        obtain ⟨⟨hk1, hk2⟩, h⟩ := h
        subst h6 h7
        obtain ⟨G2, q1, q2, q3, q4⟩ := all_freeze (g := r g) (esz := esz) (l := l) h3 h4 (by rw [sget_mgS, hg]; rfl)
        refine fin_post k h hR ⟨G2, cr, _, _, h1, h2.trans q1, q2, q3, q4 _ _ h5, rf_mg hk1, ?_⟩
        rw [← sdel_mgS, ← rfS_mg _ hk2]
      · cases h
def rowIds : Sto → List Nat
  | [] => []
  | (i, _, .row _ _) :: s => i :: rowIds s
  | _ :: s => rowIds s
theorem sfilt_mg {r : Nat → Nat} {keep : List Nat} : ∀ s : Sto, mgS r (sfilt keep s) = sfilt keep (mgS r s)
  | [] => rfl
  | (i, g, o) :: s => by
    have ih := sfilt_mg (r := r) (keep := keep) s
    simp only [sf_cons, mgS]
    split
    · simp only [mgS, ih]
    · exact ih
/-- A closed call that is reckoned, and tells a thing that leads nowhere. -/
def ran (x : Option (AVal × Sto × Nat)) : Option AVal := x.bind fun x => (xFin 4 x.1 (sfilt (rowIds x.2.1) x.2.1)).bind fun v => req (flat v) (some v)
theorem run_c (hL : LOk P L) (hm : P.follows .mixedOrders = true) (hn : (P.funcs.all fun fn => !(fn.name == "runtime.NumGoroutine")) = true) (tab : Nat → Tab) {kn : Known1} (hkn : KnOk P kn) (fs : List Nat) (hfs : fs.all (fnOk P L tab) = true) (fuel k : Nat) {f : Nat} {args : List AVal} {v : AVal} (ha : args.all flat = true) (h : ran (xCall P L tab kn fuel fs k false f args [] 1000) = some v) :
    ACall P f args [] fun r s => r = v ∧ s = [] := by
  simp only [ran, Option.bind_eq_some_iff, req_iff, Option.some.injEq] at h
  obtain ⟨⟨u, s, n⟩, h1, u', h2, h3, rfl⟩ := h
  have h4 := (xCall_ok hL hm hn quiet_ok hkn hfs k false f args [] 1000 _ _ _ h1).2.2 id
  rw [map_self fun x hx => mg_id (flat_bd (List.all_eq_true.1 ha x hx))] at h4
  refine ACall.none ⟨h4.able, fun G w cargs a b c => (h4.calls G w cargs a b c).mono fun e w' p => ?_⟩
  obtain ⟨G', cr, r1, s1, x1, x2, x3, x4, x5, r', _, rfl, rfl⟩ := p
  exact fin_post (R := fun r => r = u') 4 h2 (mg_id (flat_bd h3)) ⟨G', cr, _, _, x1, x2, x3, sto_filt (rowIds s) x4, x5, rfl, (sfilt_mg s).symm⟩
end Go.Rad
/- What the run of closed calls must know of each function. -/
namespace Go.Rad
open Go
def rtabs : List Tab := [
  ⟨[], []⟩,
  ⟨[], []⟩,
  ⟨[], []⟩,
  ⟨[0, 2, 3, 4, 5, 6], []⟩,
  ⟨[0, 2, 3, 4, 5, 6, 7, 9, 11, 12, 14, 16, 26, 40, 41, 42, 43, 48, 49, 50, 51, 52, 57, 71, 73, 74, 75, 76, 89, 93, 94, 95, 96, 118], [(31, ⟨20, [0, 1, 2, 3, 4, 5, 6, 7, 8, 9, 10, 11, 12, 13, 14, 15, 16, 17, 18, 19], [], [], [], []⟩)]⟩,
  ⟨[0, 2, 3, 4, 5, 6, 7, 8, 10, 17, 19, 20, 21, 22, 34, 35, 36, 37, 49], []⟩,
  ⟨[0, 2, 3, 4, 5, 6, 7, 8, 9, 19], []⟩,
  ⟨[0, 2, 3, 4, 5, 6, 7, 8, 9, 12, 17, 25, 33, 59, 78], [(13, ⟨12, [0, 1, 2, 3, 4, 5, 6, 7, 8, 9, 10, 11, 12, 13, 14], [], [], [], []⟩), (18, ⟨11, [0, 1, 2, 3, 4, 5, 6, 7, 8, 9, 10, 11], [], [], [], []⟩)]⟩,
  ⟨[0, 1, 2, 3, 4], []⟩,
  ⟨[0, 1, 2, 3, 4, 5, 6, 7, 22, 27, 80], []⟩,
  ⟨[0, 2, 3, 4, 7, 11, 36], []⟩,
  ⟨[0, 1, 2, 15], []⟩,
  ⟨[0, 1, 4], []⟩,
  ⟨[0, 2], []⟩,
  ⟨[0, 2, 4, 7, 8, 9, 10, 11, 42], []⟩,
  ⟨[0, 1, 2, 6, 7, 9, 10, 11, 12, 13, 15, 17, 21, 22, 23, 24, 34, 45, 46, 47, 48, 53, 54, 55, 56, 72, 80, 100, 104, 132, 154, 163, 164, 165, 166], [(23, ⟨17, [0, 1, 2, 3, 4, 5, 6, 7, 8, 9, 10, 11, 12, 13, 14, 15, 16, 17, 18, 19], [], [], [], []⟩), (34, ⟨11, [0, 1, 2, 3, 4, 5, 6, 7, 8, 9, 10, 11, 12, 13], [], [], [], []⟩), (15, ⟨10, [0, 1, 2, 3, 4, 5, 6, 7, 8, 9, 10, 11, 12], [], [], [], []⟩)]⟩,
  ⟨[0, 1, 4, 5], []⟩,
  ⟨[0, 1, 2, 3, 8, 9, 10, 11, 12, 13, 20, 24, 38, 59, 76, 87, 120], [(7, ⟨15, [0, 1, 2, 3, 4, 5, 6, 7, 8, 9, 10, 11, 12, 13, 14, 15, 16], [], [], [], []⟩), (20, ⟨7, [0, 1, 2, 3, 4, 5, 6, 7, 8, 9], [], [], [], []⟩), (21, ⟨7, [0, 1, 2, 3, 4, 5, 6, 7, 8, 9], [], [], [], []⟩)]⟩,
  ⟨[0, 1, 4, 5, 6, 7, 17, 38, 62], [(5, ⟨21, [0, 1, 2, 3, 4, 5, 6, 7, 8, 9, 10, 11, 12, 13, 14, 15, 16, 17, 18, 19, 20], [], [], [], []⟩), (8, ⟨15, [0, 1, 2, 3, 4, 5, 6, 7, 8, 9, 10, 11, 12, 13, 14], [], [], [], []⟩)]⟩,
  ⟨[0, 1, 4, 5, 8], []⟩,
  ⟨[0, 2], []⟩,
  ⟨[0, 2, 3, 4, 9], [(5, ⟨6, [0, 1, 2, 3, 4, 5, 6], [], [], [], []⟩)]⟩,
  ⟨[0, 1, 4, 5, 10, 14, 25], [(6, ⟨9, [0, 1, 2, 3, 4, 5, 6, 7, 8], [], [], [], []⟩)]⟩,
  ⟨[0, 2, 3, 7, 15], []⟩,
  ⟨[0, 1, 3, 4], []⟩,
  ⟨[0, 1, 4, 5, 7, 8, 9, 10, 11, 21], []⟩,
  ⟨[0, 1, 4], []⟩,
  ⟨[0, 1, 2, 3], []⟩,
  ⟨[0, 1, 2, 4], []⟩,
  ⟨[0, 1, 4, 5, 7, 8, 9, 16], []⟩,
  ⟨[0, 2, 4], []⟩,
  ⟨[0, 1, 2], []⟩,
  ⟨[0, 1, 3, 4, 5], [(2, ⟨7, [0, 1, 2, 3, 4, 5, 6, 7, 8, 9, 10], [18], [], [], []⟩)]⟩,
  ⟨[0, 1, 2, 7, 8, 9, 10, 11], [(3, ⟨14, [0, 1, 2, 3, 4, 5, 6, 7, 8, 9, 10, 11, 12, 13, 14, 15, 16, 17], [], [], [0], [16]⟩)]⟩,
  ⟨[0, 1, 2, 4, 5, 6, 7, 26, 34], []⟩,
  ⟨[0, 1, 2, 3, 4], [(1, ⟨14, [0, 1, 2, 3, 4, 5, 6, 7, 8, 9, 11, 12, 13, 14, 10, 15, 16, 17], [], [], [2, 3], [16, 18]⟩)]⟩,
  ⟨[0, 2, 3, 5, 6, 8, 9, 10, 11, 12, 20, 25, 26, 27, 28], []⟩,
  ⟨[0, 2], []⟩,
  ⟨[0, 2, 3, 4, 5, 8, 13, 25, 32, 44], [(6, ⟨10, [0, 1, 2, 3, 4, 5, 6, 7, 8, 9], [], [], [], []⟩), (11, ⟨10, [0, 1, 2, 3, 4, 5, 6, 7, 8, 9], [], [], [], []⟩)]⟩,
  ⟨[0, 1, 3, 4, 5], [(1, ⟨7, [0, 1, 2, 3, 4, 5, 6, 7, 8, 9, 10], [12], [], [], []⟩)]⟩,
  ⟨[0, 1, 4, 5, 6, 7, 12, 26, 34], []⟩,
  ⟨[0, 1, 2, 6, 10], [(3, ⟨20, [0, 1, 2, 3, 4, 5, 6, 7, 8, 9, 10, 11, 12, 13, 14, 15, 16, 17, 18, 19, 20, 21, 22, 23], [], [], [0, 1], [15, 19]⟩)]⟩,
  ⟨[0, 2, 3, 4, 5, 8, 16, 27, 41], [(8, ⟨11, [0, 1, 2, 3, 4, 5, 6, 7, 8, 9, 10], [], [], [], []⟩)]⟩,
  ⟨[0, 1, 4, 5, 6, 17, 38], []⟩,
  ⟨[0, 1, 2, 4, 8], []⟩,
  ⟨[0, 2, 3, 4, 5, 6, 14, 18, 26, 43, 47, 55], []⟩,
  ⟨[0, 1, 4, 5, 7, 8, 9, 16], []⟩,
  ⟨[0, 1, 4, 5, 6, 8, 10, 18, 23, 24, 25, 26, 45], [(7, ⟨8, [0, 1, 2, 3, 4, 5, 6, 7, 8], [], [], [], []⟩)]⟩,
  ⟨[0, 1, 4, 6, 16], []⟩,
  ⟨[0, 1, 2, 3, 8, 9, 10, 11, 12, 13, 14, 15, 16, 17, 18, 23, 29, 35, 50, 68, 72, 87, 113], [(17, ⟨12, [0, 1, 2, 3, 4, 5, 6, 7, 8, 9, 10, 11, 12, 13, 14], [], [], [], []⟩)]⟩,
  ⟨[0, 2], []⟩,
  ⟨[0, 2, 3, 21, 43], [(2, ⟨15, [0, 1, 2, 3, 4, 5, 6, 7, 8, 9, 10, 11, 12, 13, 14], [], [], [], []⟩)]⟩,
  ⟨[0, 2], [(1, ⟨18, [0, 1, 2, 3, 4, 5, 6, 7, 8, 9, 10, 11, 12, 13, 14, 15, 16, 17], [], [], [], []⟩)]⟩,
  ⟨[0, 1, 2, 10], []⟩,
  ⟨[0, 1, 4, 5, 6, 7, 18, 21, 29], []⟩,
  ⟨[0, 1, 2, 4], []⟩,
  ⟨[0, 1, 2, 3, 4, 5, 6, 23, 24, 42, 59, 78, 125], []⟩,
  ⟨[0, 1, 2, 6, 7, 8, 9, 10, 11, 16, 25, 42, 52], []⟩,
  ⟨[0, 2, 3, 4, 5, 6, 14, 15, 16, 17, 18, 32, 45], [(10, ⟨7, [0, 1, 2, 3, 4, 5, 6], [], [], [], []⟩)]⟩,
  ⟨[0, 2, 3, 5, 7, 8, 9, 10, 28], []⟩,
  ⟨[0, 1, 4, 5, 6, 7, 8, 9, 13, 14, 15, 16, 22, 44], []⟩,
  ⟨[0, 1, 2, 6, 7, 12, 30], [(4, ⟨13, [0, 1, 2, 3, 4, 5, 6, 7, 8, 9, 10, 11, 12, 13, 14], [], [], [], []⟩), (6, ⟨15, [0, 1, 2, 3, 4, 5, 6, 7, 8, 9, 10, 11, 12, 13, 14, 15, 16, 17], [], [], [], []⟩)]⟩,
  ⟨[0, 1, 2, 6, 7, 8, 9, 10, 19, 30], [(10, ⟨17, [0, 1, 2, 3, 4, 5, 6, 7, 8, 9, 10, 11, 12, 13, 14, 15, 16, 17, 18, 19], [], [], [], []⟩)]⟩,
  ⟨[0, 1, 2, 6, 7, 8, 9, 10, 15, 33, 43], [(10, ⟨17, [0, 1, 2, 3, 4, 5, 6, 7, 8, 9, 10, 11, 12, 13, 14, 15, 16, 17, 18, 19], [], [], [], []⟩)]⟩,
  ⟨[0, 1, 2, 6, 7, 8, 9, 10, 11, 12, 32, 34, 49, 51, 54], []⟩,
  ⟨[0, 1, 2, 6, 7, 13], [(3, ⟨13, [0, 1, 2, 3, 4, 5, 6, 7, 8, 9, 10, 11, 12, 13, 14, 15], [], [], [], []⟩)]⟩,
  ⟨[0, 1, 2, 6, 7, 8, 9, 10, 14, 32, 37, 41, 61, 65, 78, 98, 103, 116], [(5, ⟨13, [0, 1, 2, 3, 4, 5, 6, 7, 8, 9, 10, 11, 12, 13, 14, 15], [], [], [], []⟩), (11, ⟨15, [0, 1, 2, 3, 4, 5, 6, 7, 8, 9, 10, 11, 12, 13, 14, 15, 16, 17], [], [], [], []⟩), (16, ⟨9, [0, 1, 2, 3, 4, 5, 6, 7, 8, 9, 10], [], [], [], []⟩), (17, ⟨15, [0, 1, 2, 3, 4, 5, 6, 7, 8, 9, 10, 11, 12, 13, 14, 15, 16, 17], [], [], [], []⟩), (22, ⟨9, [0, 1, 2, 3, 4, 5, 6, 7, 8, 9, 10], [], [], [], []⟩), (23, ⟨15, [0, 1, 2, 3, 4, 5, 6, 7, 8, 9, 10, 11, 12, 13, 14, 15, 16, 17], [], [], [], []⟩)]⟩,
  ⟨[0, 1, 4], []⟩,
  ⟨[0, 1, 2, 3, 8, 9, 10, 43, 59, 64], [(1, ⟨13, [0, 1, 2, 3, 4, 5, 6, 7, 8, 9, 10, 11, 12, 13, 14, 15], [], [], [], []⟩), (3, ⟨12, [0, 1, 2, 3, 4, 5, 6, 7, 8, 9, 10, 11, 12, 13, 14], [], [], [], []⟩), (5, ⟨12, [0, 1, 2, 3, 4, 5, 6, 7, 8, 9, 10, 11, 12, 13], [], [], [], []⟩), (8, ⟨13, [0, 1, 2, 3, 4, 5, 6, 7, 8, 9, 10, 11, 12, 13, 14, 15], [], [], [], []⟩)]⟩,
  ⟨[0, 1, 2, 3, 8, 9, 10, 11, 43, 60, 65, 112, 129, 134], [(1, ⟨13, [0, 1, 2, 3, 4, 5, 6, 7, 8, 9, 10, 11, 12, 13, 14, 15], [], [], [], []⟩), (3, ⟨12, [0, 1, 2, 3, 4, 5, 6, 7, 8, 9, 10, 11, 12, 13], [], [], [], []⟩), (5, ⟨12, [0, 1, 2, 3, 4, 5, 6, 7, 8, 9, 10, 11, 12, 13, 14], [], [], [], []⟩), (8, ⟨13, [0, 1, 2, 3, 4, 5, 6, 7, 8, 9, 10, 11, 12, 13, 14, 15], [], [], [], []⟩), (10, ⟨13, [0, 1, 2, 3, 4, 5, 6, 7, 8, 9, 10, 11, 12, 13, 14, 15], [], [], [], []⟩), (13, ⟨12, [0, 1, 2, 3, 4, 5, 6, 7, 8, 9, 10, 11, 12, 13], [], [], [], []⟩), (15, ⟨12, [0, 1, 2, 3, 4, 5, 6, 7, 8, 9, 10, 11, 12, 13, 14], [], [], [], []⟩), (18, ⟨13, [0, 1, 2, 3, 4, 5, 6, 7, 8, 9, 10, 11, 12, 13, 14, 15], [], [], [], []⟩), (21, ⟨13, [0, 1, 2, 3, 4, 5, 6, 7, 8, 9, 10, 11, 12, 13, 14, 15], [], [], [], []⟩)]⟩,
  ⟨[0, 2, 4, 8], []⟩,
  ⟨[0, 2, 4, 8, 14], []⟩,
  ⟨[0, 2, 3, 30, 40, 43, 49], [(2, ⟨27, [0, 1, 2, 3, 4, 5, 6, 7, 8, 9, 10, 11, 12, 13, 14, 15, 16, 17, 18, 19, 20, 21, 22, 23, 24, 25, 26], [], [], [], []⟩)]⟩,
  ⟨[0, 1, 3, 4], [(1, ⟨7, [0, 1, 2, 3, 4, 5, 6, 7, 8, 9, 10], [11], [], [], []⟩)]⟩,
  ⟨[0, 1, 3, 4, 5, 6, 7, 8, 9, 10, 11, 12, 13, 36, 39, 58, 85, 116, 127, 138], [(3, ⟨10, [0, 1, 2, 3, 4, 5, 6, 7, 8, 9], [], [], [], []⟩), (12, ⟨20, [0, 1, 2, 3, 4, 5, 6, 7, 8, 9, 10, 11, 12, 13, 14, 15, 16, 17, 18, 19], [], [], [], []⟩)]⟩,
  ⟨[0, 1, 3, 4, 10], [(4, ⟨7, [0, 1, 2, 3, 4, 5, 6, 7, 8, 9, 10], [20], [], [], []⟩)]⟩,
  ⟨[0, 2, 3, 7, 25], []⟩,
  ⟨[0, 1, 2, 3, 4, 12, 13, 21, 22, 55, 58, 62, 63, 71, 72], [(10, ⟨5, [0, 1, 2, 3, 4, 5, 6, 7], [], [], [1], [26]⟩)]⟩,
  ⟨[0, 1, 4, 5, 10, 12, 13, 14, 24], [(6, ⟨9, [0, 1, 2, 3, 4, 5, 6, 7, 8], [], [], [], []⟩)]⟩,
  ⟨[0, 2, 3, 5, 6, 7, 24], []⟩,
  ⟨[0, 1, 4, 5, 6, 7, 17, 20], []⟩,
  ⟨[0, 1, 2, 4, 6, 7, 8, 9, 15, 21, 22, 23, 24], [(7, ⟨8, [0, 1, 2, 3, 4, 5, 6, 7, 8], [], [], [], []⟩), (9, ⟨7, [0, 1, 2, 3, 4, 5, 6, 7, 8, 9, 10], [43], [], [], []⟩)]⟩,
  ⟨[0, 1, 2, 3, 8, 9, 16, 36, 52], [(3, ⟨18, [0, 1, 2, 3, 4, 5, 6, 7, 8, 9, 10, 11, 12, 13, 14, 15, 16, 17, 18, 19], [], [], [], []⟩), (5, ⟨12, [0, 1, 2, 3, 4, 5, 6, 7, 8, 9, 10, 11, 12, 13], [], [], [], []⟩), (6, ⟨21, [0, 1, 2, 3, 4, 5, 6, 7, 8, 9, 10, 11, 12, 13, 14, 15, 16, 17, 18, 19, 20, 21, 22, 23], [], [], [], []⟩)]⟩,
  ⟨[0, 2], []⟩,
  ⟨[0, 2], [(1, ⟨9, [0, 1, 2, 3, 4, 5, 6, 7, 8, 9], [], [], [], []⟩), (2, ⟨9, [0, 1, 2, 3, 4, 5, 6, 7, 8, 9], [], [], [], []⟩), (3, ⟨9, [0, 1, 2, 3, 4, 5, 6, 7, 8, 9], [], [], [], []⟩)]⟩,
  ⟨[0, 1, 2, 6], []⟩,
  ⟨[0, 1, 2, 3, 4, 10], []⟩,
  ⟨[0, 2], []⟩,
  ⟨[0, 2, 3, 4, 5, 6, 11, 22, 32, 42, 52, 90], [(4, ⟨10, [0, 1, 2, 3, 4, 5, 6, 7, 8, 9], [], [], [], []⟩), (14, ⟨29, [0, 1, 2, 3, 4, 5, 6, 7, 8, 9, 10, 11, 12, 13, 14, 15, 16, 17, 18, 19, 20, 21, 22, 23, 24, 25, 26, 27, 28], [], [], [], []⟩)]⟩,
  ⟨[0, 1, 4, 5], []⟩,
  ⟨[0, 1, 2, 6, 7, 8, 9, 16, 28], []⟩,
  ⟨[0, 1, 4, 7], []⟩,
  ⟨[0, 2], []⟩,
  ⟨[0, 2], []⟩,
  ⟨[0, 2], []⟩,
  ⟨[0, 2], []⟩,
  ⟨[0, 2, 4], []⟩,
  ⟨[0, 1, 2, 3, 8, 9, 18], [(1, ⟨8, [0, 1, 2, 3, 4, 5, 6, 7, 8], [], [], [], []⟩)]⟩,
  ⟨[0, 2, 3, 4, 14, 19, 24, 40, 72, 85, 105], [(1, ⟨10, [0, 1, 2, 3, 4, 5, 6, 7, 8, 9], [], [], [], []⟩), (9, ⟨30, [0, 1, 2, 3, 4, 5, 6, 7, 8, 9, 10, 11, 12, 13, 14, 15, 16, 17, 18, 19, 20, 21, 22, 23, 24, 25, 26, 27, 28, 29], [], [], [], []⟩)]⟩,
  ⟨[0, 2, 3, 4, 5, 6, 35, 57, 61, 63, 80, 116], [(5, ⟨15, [0, 1, 2, 3, 4, 5, 6, 7, 8, 9, 10, 11, 12, 13, 14], [], [], [], []⟩), (8, ⟨15, [0, 1, 2, 3, 4, 5, 6, 7, 8, 9, 10, 11, 12, 13, 14], [], [], [], []⟩), (15, ⟨10, [0, 1, 2, 3, 4, 5, 6, 7, 8, 9], [], [], [], []⟩)]⟩,
  ⟨[0, 2, 3, 8, 39], []⟩,
  ⟨[0, 2, 3, 4, 5, 6, 7, 8, 31, 65, 83, 99, 113, 116, 121], [(2, ⟨16, [0, 1, 2, 3, 4, 5, 6, 7, 8, 9, 10, 11, 12, 13, 14, 15], [], [], [], []⟩), (6, ⟨26, [0, 1, 2, 3, 4, 5, 6, 7, 8, 9, 10, 11, 12, 13, 14, 15, 16, 17, 18, 19, 20, 21, 22, 23, 24, 25], [], [], [], []⟩), (9, ⟨15, [0, 1, 2, 3, 4, 5, 6, 7, 8, 9, 10, 11, 12, 13, 14], [], [], [], []⟩)]⟩,
  ⟨[0, 1, 2, 3, 4, 7, 14], []⟩,
  ⟨[0, 2, 3, 29, 38, 57], [(3, ⟨15, [0, 1, 2, 3, 4, 5, 6, 7, 8, 9, 10, 11, 12, 13, 14], [], [], [], []⟩), (8, ⟨12, [0, 1, 2, 3, 4, 5, 6, 7, 8, 9, 10, 11], [], [], [], []⟩), (12, ⟨13, [0, 1, 2, 3, 4, 5, 6, 7, 8, 9, 10, 11, 12, 13, 14], [], [], [], []⟩)]⟩,
  ⟨[0, 1, 4, 5, 9, 16], []⟩,
  ⟨[0], []⟩,
  ⟨[0, 2, 3, 4, 5, 6, 7, 29, 32, 56, 59, 62, 65, 78, 120, 126], [(1, ⟨10, [0, 1, 2, 3, 4, 5, 6, 7, 8, 9], [], [], [], []⟩), (9, ⟨10, [0, 1, 2, 3, 4, 5, 6, 7, 8, 9], [], [], [], []⟩), (18, ⟨11, [0, 1, 2, 3, 4, 5, 6, 7, 8, 9, 10], [], [], [], []⟩), (21, ⟨11, [0, 1, 2, 3, 4, 5, 6, 7, 8, 9, 10], [], [], [], []⟩), (22, ⟨12, [0, 1, 2, 3, 4, 5, 6, 7, 8, 9, 10, 11], [], [], [], []⟩)]⟩,
  ⟨[0, 2, 3, 4, 23, 70], [(3, ⟨15, [0, 1, 2, 3, 4, 5, 6, 7, 8, 9, 10, 11, 12, 13, 14], [], [], [], []⟩), (4, ⟨16, [0, 1, 2, 3, 4, 5, 6, 7, 8, 9, 10, 11, 12, 13, 14, 15], [], [], [], []⟩)]⟩,
  ⟨[0, 2, 4, 21], [(4, ⟨10, [0, 1, 2, 3, 4, 5, 6, 7, 8, 9], [], [], [], []⟩)]⟩,
  ⟨[0, 1, 4, 5, 6, 13], []⟩,
  ⟨[0, 2, 3, 4, 5, 8, 14, 23], []⟩,
  ⟨[0, 2, 4, 13], []⟩,
  ⟨[], []⟩,
  ⟨[], []⟩,
  ⟨[], []⟩,
  ⟨[], []⟩,
  ⟨[], []⟩,
  ⟨[], []⟩,
  ⟨[], []⟩,
  ⟨[], []⟩,
  ⟨[], []⟩,
  ⟨[], []⟩,
  ⟨[], []⟩,
  ⟨[], []⟩,
  ⟨[], []⟩,
  ⟨[], []⟩,
  ⟨[], []⟩,
  ⟨[], []⟩]
def rtab : Nat → Tab := fun f => rtabs.getD f ⟨[], []⟩
theorem no_num : (Go.Proofs.Tryz.prog.funcs.all fun fn => !(fn.name == "runtime.NumGoroutine")) = true := by decide +kernel
theorem kn_none : KnOk Go.Proofs.Tryz.prog (fun _ => none) := fun _ _ _ _ h => by cases h
theorem ran_c {kn : Known1} (hkn : KnOk Go.Proofs.Tryz.prog kn) (fs : List Nat) (hfs : fs.all (fnOk Go.Proofs.Tryz.prog LL rtab) = true) (fuel k : Nat) {f : Nat} {args : List AVal} {v : AVal} (ha : args.all flat = true) (h : ran (xCall Go.Proofs.Tryz.prog LL rtab kn fuel fs k false f args [] 1000) = some v) : ACall Go.Proofs.Tryz.prog f args [] fun r s => r = v ∧ s = [] := run_c LL_ok mixed no_num rtab hkn fs hfs fuel k ha h
end Go.Rad
/- What is known of some calls by their contracts, for the run of closed calls. -/
namespace Go.Rad
open Go Go.Proofs
def kIn : List AVal → Option AVal
  | [.int .u8 c, .str l] => req (decide (0 ≤ c) && Nat.ble l.size 1000000) (some (.bool (inS c.toNat l)))
  | _ => none
def decB : List (List AVal) → Option (List Nat)
  | [] => some []
  | [.int .u8 n] :: l => req (decide (0 ≤ n) && decide (n ≤ 255)) ((decB l).map (n.toNat :: ·))
  | _ => none
theorem decB_ok : ∀ {l : List (List AVal)} {bs : List Nat}, decB l = some bs → l = bytesL bs ∧ ∀ x ∈ bs, x ≤ 255
  | [], bs, h => by cases h; exact ⟨rfl, fun _ h => by cases h⟩
  | x :: l, bs, h => by
    unfold decB at h
    split at h
    · rename_i h1; cases h1
    · rename_i n l' h1
      cases h1
      simp only [req_iff, Bool.and_eq_true, decide_eq_true_eq] at h
      obtain ⟨⟨h1, h2⟩, h⟩ := h
      obtain ⟨bs', h3, rfl⟩ := mp_some h
      obtain ⟨h4, h5⟩ := decB_ok h3
      refine ⟨?_, fun x hx => ?_⟩
      · rw [h4]; simp only [bytesL, List.map_cons]; rw [Int.toNat_of_nonneg h1]
      · rcases List.mem_cons.1 hx with rfl | hx
        · omega
        · exact h5 x hx
    · cases h
def decS : List (List AVal) → Option (List ISet)
  | [] => some []
  | [.int .u64 a, .int .u64 b, .int .u64 c, .int .u64 d] :: l => (decS l).map (⟨a, b, c, d⟩ :: ·)
  | _ => none
theorem decS_ok : ∀ {l : List (List AVal)} {ss : List ISet}, decS l = some ss → l = sets ss
  | [], bs, h => by cases h; rfl
  | x :: l, bs, h => by
    unfold decS at h
    split at h
    · rename_i h1; cases h1
    · rename_i a b c d l' h1
      cases h1
      obtain ⟨bs', h3, rfl⟩ := mp_some h
      rw [decS_ok h3]; rfl
    · cases h
def kOf : List AVal → Option AVal
  | [.sl _ _ l] => (decB l).bind fun bs => req (Nat.ble bs.length 1000000) (some (.agg (bs.foldl withI ISet.none).cells))
  | _ => none
def kRange : List AVal → Option AVal
  | [.int .u8 lo, .int .u8 hi] => req (decide (0 ≤ lo) && decide (lo ≤ 255) && decide (0 ≤ hi) && decide (hi ≤ 255)) (some (.agg (rangeI lo.toNat hi.toNat).cells))
  | _ => none
def kOr : List AVal → Option AVal
  | [.sl _ _ l] => (decS l).bind fun ss => req (Nat.ble ss.length 1000000) (some (.agg (orI ss).cells))
  | _ => none
def kNot : List AVal → Option AVal
  | [.agg [.int .u64 a, .int .u64 b, .int .u64 c, .int .u64 d]] => some (.agg (notI ⟨a, b, c, d⟩).cells)
  | _ => none
def kName : List AVal → Option AVal
  | [.str s] => req (Nat.ble s.size maxLen) (some (.bool (nameOk s)))
  | _ => none
/-- One function's calls, and what else is known. -/
def kAdd (f0 : Nat) (g : List AVal → Option AVal) (kn : Known1) : Known1 := fun f => match Nat.beq f f0 with | true => some g | false => kn f
theorem kAdd_ok {f0 : Nat} {g : List AVal → Option AVal} {kn : Known1} (h : ∀ args v, g args = some v → ACall Tryz.prog f0 args [] fun r s => r = v ∧ s = []) (hk : KnOk Tryz.prog kn) : KnOk Tryz.prog (kAdd f0 g kn) := by
  intro f g' args v hg hv
  unfold kAdd at hg
  split at hg
  · rename_i e; cases hg; rw [Nat.eq_of_beq_eq_true e]; exact h args v hv
  · exact hk f g' args v hg hv
def kn4 : Known1 := kAdd 104 kIn (kAdd 21 kOf (kAdd 109 kRange (kAdd 110 kOr (kAdd 102 kNot (kAdd 76 kName fun _ => none)))))
theorem kn4uok : KnOk Tryz.prog kn4 := by
  refine kAdd_ok (fun args v h => ?_) (kAdd_ok (fun args v h => ?_) (kAdd_ok (fun args v h => ?_) (kAdd_ok (fun args v h => ?_) (kAdd_ok (fun args v h => ?_) (kAdd_ok (fun args v h => ?_) kn_none)))))
  · unfold kIn at h
    split at h
    · rename_i c l
      simp only [req_iff, Bool.and_eq_true, decide_eq_true_eq, Nat.ble_eq, Option.some.injEq] at h
      obtain ⟨⟨h1, h2⟩, rfl⟩ := h
      have := in4uc c.toNat l h2
      rwa [Int.toNat_of_nonneg h1] at this
    · cases h
  · unfold kOf at h
    split at h
    · simp only [Option.bind_eq_some_iff, req_iff, Nat.ble_eq, Option.some.injEq] at h
      obtain ⟨bs, h1, h2, rfl⟩ := h
      obtain ⟨rfl, h3⟩ := decB_ok h1
      exact of_c _ _ bs h3 h2
    · cases h
  · unfold kRange at h
    split at h
    · rename_i lo hi
      simp only [req_iff, Bool.and_eq_true, decide_eq_true_eq, Option.some.injEq] at h
      obtain ⟨⟨⟨⟨h1, h2⟩, h3⟩, h4⟩, rfl⟩ := h
      have := range_c lo.toNat hi.toNat (by omega) (by omega)
      rwa [Int.toNat_of_nonneg h1, Int.toNat_of_nonneg h3] at this
    · cases h
  · unfold kOr at h
    split at h
    · simp only [Option.bind_eq_some_iff, req_iff, Nat.ble_eq, Option.some.injEq] at h
      obtain ⟨ss, h1, h2, rfl⟩ := h
      rw [decS_ok h1]
      exact or_c _ _ ss h2
    · cases h
  · unfold kNot at h
    split at h
    · cases h; exact not_c _ _ _ _
    · cases h
  · unfold kName at h
    split at h
    · simp only [req_iff, Nat.ble_eq, Option.some.injEq] at h
      obtain ⟨h1, rfl⟩ := h
      exact name4uc _ h1
    · cases h
/-- The reader of the document. -/
def fsR : List Nat := [42, 51, 52, 53, 72, 73, 88, 98, 99, 100, 101, 103, 106, 107, 108, 105, 93, 111]
theorem fsR_ok : fsR.all (fnOk Tryz.prog LL rtab) = true := by decide +kernel
theorem parse_run {s : ByteArray} {v : AVal} (h : ran (xCall Tryz.prog LL rtab kn4 10000 fsR 60 false 42 [.str s] [] 1000) = some v) : ACall Tryz.prog 42 [.str s] [] fun r s => r = v ∧ s = [] := ran_c kn4uok fsR fsR_ok _ _ rfl h
end Go.Rad
/- What a call tells, said otherwise: an own row that it tells is given away. -/
namespace Go.Rad
open Go
theorem ACall.post {P : Program} {f : Nat} {args : List AVal} {sto : Sto} {R R' : AVal → Sto → Prop} (h : ACall P f args sto R)
    (hp : ∀ (G : Gh) (w : World) (r : AVal) (s : Sto) (v : Value), WOk G w → StoOk G w s → Rep G true r v → R r s → ∃ G' r' s', Ext G G' ∧ WOk G' w ∧ StoOk G' w s' ∧ Rep G' true r' v ∧ R' r' s') : ACall P f args sto R' := by
  refine ⟨h.able, fun G w cargs a b c => (h.calls G w cargs a b c).mono fun _ _ p => ?_⟩
  obtain ⟨G', cr, r, sto', a, b, c, d, e', f⟩ := p
  obtain ⟨G2, r2, s2, x1, x2, x3, x4, x5⟩ := hp _ _ _ _ _ c d e' f
  exact ⟨G2, cr, r2, s2, a, b.trans x1, x2, x3, x4, x5⟩
theorem ACall.frzRes {P : Program} {f : Nat} {args : List AVal} {sto : Sto} {R R' : AVal → Sto → Prop} (h : ACall P f args sto R)
    (hp : ∀ r s, R r s → (∃ id g esz l, r = .osl id g 0 l.length ∧ sget s id = some (g, .row esz l) ∧ R' (.sl true false l) (sdel s id)) ∨ (∃ q full l, r = .sl q full l ∧ R' (.sl q false l) s) ∨ R' r s) : ACall P f args sto R' := by
  refine h.post fun G w r s v hw hs hr hR => ?_
  rcases hp r s hR with ⟨id, g, esz, l, rfl, hg, h'⟩ | ⟨q, full, l, rfl, h'⟩ | h'
  · obtain ⟨G', hext, hw', hs', hR⟩ := sto_freeze hw hs hg
    have := hR 0 l.length v (by omega) hr
    simp only [List.drop_zero, List.take_length] at this
    exact ⟨G', _, _, hext, hw', hs', this, h'⟩
  · refine ⟨G, _, s, .refl G, hw, hs, ?_, h'⟩
    cases hr with
    | slnil => exact .slnil (fun h => by cases h)
    | sl a _ b c d e f g h => exact .sl a (fun h => by cases h) b c d e f g h
  · exact ⟨G, r, s, .refl G, hw, hs, hr, h'⟩
/-- The numbers within an argument that is a list are what their kinds hold. -/
theorem ACall.fitSl {P : Program} {f : Nat} {args : List AVal} {sto : Sto} {R : AVal → Sto → Prop} (i : Nat) {q full : Bool} {l : List (List AVal)} (able : Callable P f) (hi : args[i]? = some (.sl q full l))
    (h : (∀ (m j : Nat) (x : List AVal) (k : IntKind) (n : Int), l[m]? = some x → x[j]? = some (.int k n) → fits k n) → ACall P f args sto R) : ACall P f args sto R := by
  refine ⟨able, fun G w cargs hw hs ha => ?_⟩
  have hr := ha.2 i _ hi
  generalize cargs.getD i undef = v at hr
  refine (h fun m j x k n hm hj => ?_).calls G w cargs hw hs ha
  cases hr with
  | slnil => simp at hm
  | sl _ _ _ _ _ _ _ _ hc =>
    have := hc m j x _ hm hj
    revert this
    generalize Array.getD _ _ undef = u
    intro this
    cases this with
    | int hf => exact hf
end Go.Rad
/- The head of the statements of layer 9. -/
namespace Go.Rad
open Go Go.Proofs
set_option linter.all false
set_option maxRecDepth 20000
set_option maxHeartbeats 4000000

/-- A pair of lists and a number, the lists' flags forgotten. -/
theorem rep_pair {G : Gh} {o : Bool} {b1 b2 : Bool} {x y : List (List AVal)} {e : AVal} {v : Value} (h : Rep G o (.tup [.agg [.sl true b1 x, .sl true b2 y], e]) v) : Rep G o (.tup [.agg [.sl true false x, .sl true false y], e]) v := by
  cases h with
  | tup a c =>
    refine .tup a fun j z hz => ?_
    match j, hz with
    | 0, hz =>
      simp only [List.getElem?_cons_zero, Option.some.injEq] at hz
      subst hz
      have h0 := c 0 _ rfl
      generalize Array.getD _ 0 undef = u at h0
      cases h0 with
      | agg a2 b2 c2 =>
        refine .agg a2 ?_ ?_
        · intro j x hx
          match j, hx with
          | 0, hx => simp only [List.getElem?_cons_zero, Option.some.injEq] at hx; subst hx; rfl
          | 1, hx => simp only [List.getElem?_cons_succ, List.getElem?_cons_zero, Option.some.injEq] at hx; subst hx; rfl
        · intro j x hx
          match j, hx with
          | 0, hx => simp only [List.getElem?_cons_zero, Option.some.injEq] at hx; subst hx; exact rep_unfull (c2 0 _ rfl)
          | 1, hx => simp only [List.getElem?_cons_succ, List.getElem?_cons_zero, Option.some.injEq] at hx; subst hx; exact rep_unfull (c2 1 _ rfl)
    | 1, hz => exact c 1 _ hz
theorem of9F_c (f : Bool) (ls : List (List Node)) (hll : ls.length ≤ 1000000) (hnd : ∀ x ∈ ls, ndOk x) :
    ACall Tryz.prog 5 [.sl true f (trees ls)] [] fun r s => r = .tup [.agg [.sl true false (ints (ofG ls).1), .sl true false (poss (ofG ls).2.1)], .int .i64 (ofG ls).2.2] ∧ s = [] := by
  refine (of9uc f ls hll hnd).post fun G w r s v hw hs hr hR => ?_
  obtain ⟨⟨b1, b2, rfl⟩, rfl⟩ := hR
  exact ⟨G, _, _, .refl G, hw, hs, rep_pair hr, rfl, rfl⟩
abbrev byte9 (b : Int) : Node := ⟨2, ⟨0, b, 0, 0⟩, [], 0, 0, ByteArray.empty⟩
abbrev t9a : List Node := [byte9 8589934592, byte9 17179869184, ⟨5, ISet.none, [1], 0, -1, ByteArray.empty⟩, ⟨3, ISet.none, [0, 2], 0, 0, ByteArray.empty⟩]
abbrev t9b : List Node := [byte9 34359738368, ⟨5, ISet.none, [0], 2, 9, ByteArray.empty⟩]
theorem p9a : ACall Tryz.prog 42 [.str ⟨#[97, 98, 42]⟩] [] fun r s => r = .tup [.sl true false (nodes t9a), .int .i64 0, .int .i64 0] ∧ s = [] := parse_run (by kernel_rfl)
theorem p9b : ACall Tryz.prog 42 [.str ⟨#[99, 123, 50, 44, 57, 125]⟩] [] fun r s => r = .tup [.sl true false (nodes t9b), .int .i64 0, .int .i64 0] ∧ s = [] := parse_run (by kernel_rfl)
theorem r9a : ref8S t9a 3 = (t9a, 0) := by decide +kernel
theorem r9b : ref8S t9b 3 = (t9b, 0) := by decide +kernel
theorem of9a : ACall Tryz.prog 19 [.str ⟨#[97, 98, 42]⟩, .int .i64 3] [] fun r s => r = .sl true false (nodes t9a) ∧ s = [] := by
  have h := rtree_c false t9a 3 (by decide) (by decide +kernel) (fun h1 h2 h3 => planR_nd h1 h2 h3)
  rw [r9a] at h
  simp only [flS_0] at h
  have hp := p9a
  generalize nodes t9a = A at h hp ⊢
  refine ACall.enter Tryz.func19 rfl (by kernel_rfl) (Nat.le_of_ble_eq_true rfl) ?_; simp only [initTm, Nat.reduceAdd]
  repeat' (first
  | refine gSq ?_ | refine gSk ?_ | refine gBl ?_ | refine gIb ?_ | refine gEx rfl ?_
  | ((first
  | (refine gRg [] [0, 1, 4, 5, 8] ?_; intro K hK)
  | refine cAl (hp) rfl rfl rfl ?_
  | refine cAl (h) rfl rfl rfl ?_
  | (refine gd_split ?_ ?_ <;> intro hb <;> (try simp only [bls] at hb) <;> (try simp only [hb]))
  | refine gRt [] [.tmp 4] rfl ?_ | refine gDn [] [.tmp 4] rfl ?_) <;> (try simp only [go_sem, simprocAttr]))
  | (refine hK _ _ ?_; clear hK K; simp only [go_sem, simprocAttr])
  | refine gCd (by simp only [go_sem, simprocAttr]; rfl) rfl ?_
  | refine brT ?_ | refine brF ?_
  | (refine brS ?_ ?_ <;> intro hc <;> (try simp only [bls] at hc) <;> (try simp only [hc, bls]))
  | intro _ | refine And.intro ?_ ?_)
  all_goals first | omega | (unfold bigLen; omega) | exact ⟨_, _, ⟨rfl, rfl⟩, rfl⟩ | exact ⟨_, rfl⟩ | (rename_i hy; simp only [List.mem_singleton] at hy; subst hy; rfl) | with_reducible rfl | skip
theorem of9b : ACall Tryz.prog 19 [.str ⟨#[99, 123, 50, 44, 57, 125]⟩, .int .i64 3] [] fun r s => r = .sl true false (nodes t9b) ∧ s = [] := by
  have h := rtree_c false t9b 3 (by decide) (by decide +kernel) (fun h1 h2 h3 => planR_nd h1 h2 h3)
  rw [r9b] at h
  simp only [flS_0] at h
  have hp := p9b
  generalize nodes t9b = A at h hp ⊢
  refine ACall.enter Tryz.func19 rfl (by kernel_rfl) (Nat.le_of_ble_eq_true rfl) ?_; simp only [initTm, Nat.reduceAdd]
  repeat' (first
  | refine gSq ?_ | refine gSk ?_ | refine gBl ?_ | refine gIb ?_ | refine gEx rfl ?_
  | ((first
  | (refine gRg [] [0, 1, 4, 5, 8] ?_; intro K hK)
  | refine cAl (hp) rfl rfl rfl ?_
  | refine cAl (h) rfl rfl rfl ?_
  | (refine gd_split ?_ ?_ <;> intro hb <;> (try simp only [bls] at hb) <;> (try simp only [hb]))
  | refine gRt [] [.tmp 4] rfl ?_ | refine gDn [] [.tmp 4] rfl ?_) <;> (try simp only [go_sem, simprocAttr]))
  | (refine hK _ _ ?_; clear hK K; simp only [go_sem, simprocAttr])
  | refine gCd (by simp only [go_sem, simprocAttr]; rfl) rfl ?_
  | refine brT ?_ | refine brF ?_
  | (refine brS ?_ ?_ <;> intro hc <;> (try simp only [bls] at hc) <;> (try simp only [hc, bls]))
  | intro _ | refine And.intro ?_ ?_)
  all_goals first | omega | (unfold bigLen; omega) | exact ⟨_, _, ⟨rfl, rfl⟩, rfl⟩ | exact ⟨_, rfl⟩ | (rename_i hy; simp only [List.mem_singleton] at hy; subst hy; rfl) | with_reducible rfl | skip
abbrev w9 : List Po := [⟨⟨0, 8589934592, 0, 0⟩, 1, 1, 0, true, [1]⟩, ⟨⟨0, 17179869184, 0, 0⟩, 1, 1, 0, true, [1]⟩, ⟨⟨0, 34359738368, 0, 0⟩, 2, 9, 1, true, []⟩]
theorem g9 : ofG [t9a, t9b] = ([0, 2], w9, 0) := by kernel_rfl
theorem same9uc (q f q' f' : Bool) (a : List Int) (ha : a.length ≤ 100000000) : ACall Tryz.prog 22 [.sl q f (ints a), .sl q' f' (ints a)] [] fun r s => r = .bool true ∧ s = [] := by
  refine ACall.enter Tryz.func22 rfl (by kernel_rfl) (Nat.le_of_ble_eq_true rfl) ?_; simp only [initTm, Nat.reduceAdd]
  repeat' (first
  | refine gSq ?_ | refine gSk ?_ | refine gBl ?_ | refine gIb ?_ | refine gEx rfl ?_
  | ((first
  | (refine gRg [] [0, 1, 4, 5, 10, 14, 25] ?_; intro K hK)
  | (refine gDr 6 [] 9 [0, 1, 2, 3, 4, 5, 6, 7, 8] [0, 1, 4, 5, 10, 14, 25] rfl ?_; intro K hK)
  | (refine gd_split ?_ ?_ <;> intro hb <;> (try simp only [bls] at hb) <;> (try simp only [hb]))
  | refine gRt [] [.tmp 4] rfl ?_ | refine gDn [] [.tmp 4] rfl ?_) <;> (try simp only [go_sem, simprocAttr]))
  | (refine hK _ _ ?_; clear hK K; simp only [go_sem, simprocAttr])
  | refine gCd (by simp only [go_sem, simprocAttr]; rfl) rfl ?_
  | refine brT ?_ | refine brF ?_
  | (refine brS ?_ ?_ <;> intro hc <;> (try simp only [bls] at hc) <;> (try simp only [hc, bls]))
  | intro _ | refine And.intro ?_ ?_)
  all_goals first | omega | (unfold bigLen; omega) | exact ⟨_, _, ⟨rfl, rfl⟩, rfl⟩ | exact ⟨_, rfl⟩ | (rename_i hy; simp only [List.mem_singleton] at hy; subst hy; rfl) | with_reducible rfl | skip
  refine AGood.prune [0, 1, 4, 5] ?_; simp only [go_sem, simprocAttr]
  refine AGood.loopInv (α := Nat) (fun i => ([(0, .sl q f (ints a)), (1, .sl q' f' (ints a)), (4, .bool false), (5, .int .i64 i)], [])) (fun i => i ≤ a.length) (fun i => a.length - i) 0 (Nat.zero_le _) rfl ?_
  rintro i hi ih
  simp only at hi ih ⊢
  by_cases hle : i < a.length
  · have e4 : (i : Int) < a.length := by omega
    have e5 : (0 : Int) ≤ i := by omega
    have e6 : (i : Int) + 1 = ((i + 1 : Nat) : Int) := by omega
    obtain ⟨x, hx⟩ : ∃ x, a[i]? = some x := ⟨_, List.getElem?_eq_getElem hle⟩
    repeat' (first
  | refine gSq ?_ | refine gSk ?_ | refine gBl ?_ | refine gIb ?_ | refine gEx rfl ?_
  | ((first
  | (refine gRg [] [0, 1, 4, 5, 10, 14, 25] ?_; intro K hK)
  | (refine gDr 6 [] 9 [0, 1, 2, 3, 4, 5, 6, 7, 8] [0, 1, 4, 5, 10, 14, 25] rfl ?_; intro K hK)
  | (refine gd_split ?_ ?_ <;> intro hb <;> (try simp only [bls] at hb) <;> (try simp only [hb]))
  | refine gRt [] [.tmp 4] rfl ?_ | refine gDn [] [.tmp 4] rfl ?_) <;> (try simp only [go_sem, simprocAttr, e4, e5, e6, hx, eq_self, Option.some.injEq, forall_eq']))
  | (refine hK _ _ ?_; clear hK K; simp only [go_sem, simprocAttr])
  | refine gCd (by simp only [go_sem, simprocAttr]; rfl) rfl ?_
  | refine brT ?_ | refine brF ?_
  | (refine brS ?_ ?_ <;> intro hc <;> (try simp only [bls] at hc) <;> (try simp only [hc, bls]))
  | intro _ | refine And.intro ?_ ?_)
    all_goals first | omega | (unfold bigLen; omega) | exact ⟨_, _, ⟨rfl, rfl⟩, rfl⟩ | exact ⟨_, rfl⟩ | (rename_i hy; simp only [List.mem_singleton] at hy; subst hy; rfl) | with_reducible rfl | skip
    refine AGood.prune [0, 1, 4, 5] ?_; simp only [go_sem, simprocAttr]
    exact (ih (i + 1) (by omega) (by omega)).cast rfl rfl
  · have e4 : ¬ (i : Int) < a.length := by omega
    clear ih
    repeat' (first
  | refine gSq ?_ | refine gSk ?_ | refine gBl ?_ | refine gIb ?_ | refine gEx rfl ?_
  | ((first
  | (refine gRg [] [0, 1, 4, 5, 10, 14, 25] ?_; intro K hK)
  | (refine gDr 6 [] 9 [0, 1, 2, 3, 4, 5, 6, 7, 8] [0, 1, 4, 5, 10, 14, 25] rfl ?_; intro K hK)
  | (refine gd_split ?_ ?_ <;> intro hb <;> (try simp only [bls] at hb) <;> (try simp only [hb]))
  | refine gRt [] [.tmp 4] rfl ?_ | refine gDn [] [.tmp 4] rfl ?_) <;> (try simp only [go_sem, simprocAttr, e4]))
  | (refine hK _ _ ?_; clear hK K; simp only [go_sem, simprocAttr])
  | refine gCd (by simp only [go_sem, simprocAttr]; rfl) rfl ?_
  | refine brT ?_ | refine brF ?_
  | (refine brS ?_ ?_ <;> intro hc <;> (try simp only [bls] at hc) <;> (try simp only [hc, bls]))
  | intro _ | refine And.intro ?_ ?_)
    all_goals first | omega | (unfold bigLen; omega) | exact ⟨_, _, ⟨rfl, rfl⟩, rfl⟩ | exact ⟨_, rfl⟩ | (rename_i hy; simp only [List.mem_singleton] at hy; subst hy; rfl) | with_reducible rfl | skip
theorem Same9uc (b1 b2 b3 b4 : Bool) (fi : List Int) (ps : List Po) (hf : fi.length ≤ 100000000) (hp : ps.length ≤ 1000000) (hn : ∀ p ∈ ps, p.next.length ≤ 100000000) :
    ACall Tryz.prog 9 [.agg [.sl true b1 (ints fi), .sl true b2 (poss ps)], .agg [.sl true b3 (ints fi), .sl true b4 (poss ps)]] [] fun r s => r = .bool true ∧ s = [] := by
  have hs := same9uc true b1 true b3 fi hf
  refine ACall.enter Tryz.func9 rfl (by kernel_rfl) (Nat.le_of_ble_eq_true rfl) ?_; simp only [initTm, Nat.reduceAdd]
  repeat' (first
  | refine gSq ?_ | refine gSk ?_ | refine gBl ?_ | refine gIb ?_ | refine gEx rfl ?_
  | ((first
  | (refine gRg [] [0, 1, 2, 3, 4, 5, 6, 7, 22, 27, 80] ?_; intro K hK)
  | refine cAl (hs) rfl rfl rfl ?_
  | (refine gd_split ?_ ?_ <;> intro hb <;> (try simp only [bls] at hb) <;> (try simp only [hb]))
  | refine gRt [] [.tmp 4] rfl ?_ | refine gDn [] [.tmp 4] rfl ?_) <;> (try simp only [go_sem, simprocAttr]))
  | (refine hK _ _ ?_; clear hK K; simp only [go_sem, simprocAttr])
  | refine gCd (by simp only [go_sem, simprocAttr]; rfl) rfl ?_
  | refine brT ?_ | refine brF ?_
  | (refine brS ?_ ?_ <;> intro hc <;> (try simp only [bls] at hc) <;> (try simp only [hc, bls]))
  | intro _ | refine And.intro ?_ ?_)
  all_goals first | omega | (unfold bigLen; omega) | exact ⟨_, _, ⟨rfl, rfl⟩, rfl⟩ | exact ⟨_, rfl⟩ | (rename_i hy; simp only [List.mem_singleton] at hy; subst hy; rfl) | with_reducible rfl | skip
  rename_i h2 h3
  refine AGood.prune [2, 3, 4, 5] ?_; simp only [go_sem, simprocAttr]
  refine AGood.loopInv (α := Nat) (fun i => ([(2, .bx 2 h2 0), (3, .bx 3 h3 0), (4, .bool false), (5, .int .i64 i)], [(2, h2, .box [.sl true b1 (ints fi), .sl true b2 (poss ps)]), (3, h3, .box [.sl true b3 (ints fi), .sl true b4 (poss ps)])])) (fun i => i ≤ ps.length) (fun i => ps.length - i) 0 (Nat.zero_le _) rfl ?_
  rintro i hi ih
  simp only at hi ih ⊢
  by_cases hle : i < ps.length
  · have e4 : (i : Int) < ps.length := by omega
    have e5 : (0 : Int) ≤ i := by omega
    have e6 : (i : Int) + 1 = ((i + 1 : Nat) : Int) := by omega
    obtain ⟨p, hx⟩ : ∃ x, ps[i]? = some x := ⟨_, List.getElem?_eq_getElem hle⟩
    have hpn := hn p (List.mem_of_getElem? hx)
    have hsn := same9uc true false true false p.next hpn
    obtain ⟨⟨sa, sb, sc, sd⟩, lo, hi', rule, last, next⟩ := p
    simp only at hsn
    cases last
    · repeat' (first
  | refine gSq ?_ | refine gSk ?_ | refine gBl ?_ | refine gIb ?_ | refine gEx rfl ?_
  | ((first
  | (refine gRg [] [0, 1, 2, 3, 4, 5, 6, 7, 22, 27, 80] ?_; intro K hK)
  | refine cAl (hsn) rfl rfl rfl ?_
  | (refine gd_split ?_ ?_ <;> intro hb <;> (try simp only [bls] at hb) <;> (try simp only [hb]))
  | refine gRt [] [.tmp 4] rfl ?_ | refine gDn [] [.tmp 4] rfl ?_) <;> (try simp only [go_sem, simprocAttr, e4, e5, e6, hx, eq_self, beq_self_eq_true, Option.some.injEq, forall_eq']))
  | (refine hK _ _ ?_; clear hK K; simp only [go_sem, simprocAttr])
  | refine gCd (by simp only [go_sem, simprocAttr]; rfl) rfl ?_
  | refine brT ?_ | refine brF ?_
  | (refine brS ?_ ?_ <;> intro hc <;> (try simp only [bls] at hc) <;> (try simp only [hc, bls]))
  | intro _ | refine And.intro ?_ ?_)
      all_goals first | omega | (unfold bigLen; omega) | exact ⟨_, _, ⟨rfl, rfl⟩, rfl⟩ | exact ⟨_, rfl⟩ | (rename_i hy; simp only [List.mem_singleton] at hy; subst hy; rfl) | with_reducible rfl | skip
      refine AGood.filt [2, 3] ?_
      simp only [sf_cons, sf_nil, go_sem, simprocAttr]
      refine AGood.prune [2, 3, 4, 5] ?_; simp only [go_sem, simprocAttr]
      exact (ih (i + 1) (by omega) (by omega)).cast rfl rfl
    · repeat' (first
  | refine gSq ?_ | refine gSk ?_ | refine gBl ?_ | refine gIb ?_ | refine gEx rfl ?_
  | ((first
  | (refine gRg [] [0, 1, 2, 3, 4, 5, 6, 7, 22, 27, 80] ?_; intro K hK)
  | refine cAl (hsn) rfl rfl rfl ?_
  | (refine gd_split ?_ ?_ <;> intro hb <;> (try simp only [bls] at hb) <;> (try simp only [hb]))
  | refine gRt [] [.tmp 4] rfl ?_ | refine gDn [] [.tmp 4] rfl ?_) <;> (try simp only [go_sem, simprocAttr, e4, e5, e6, hx, eq_self, beq_self_eq_true, Option.some.injEq, forall_eq']))
  | (refine hK _ _ ?_; clear hK K; simp only [go_sem, simprocAttr])
  | refine gCd (by simp only [go_sem, simprocAttr]; rfl) rfl ?_
  | refine brT ?_ | refine brF ?_
  | (refine brS ?_ ?_ <;> intro hc <;> (try simp only [bls] at hc) <;> (try simp only [hc, bls]))
  | intro _ | refine And.intro ?_ ?_)
      all_goals first | omega | (unfold bigLen; omega) | exact ⟨_, _, ⟨rfl, rfl⟩, rfl⟩ | exact ⟨_, rfl⟩ | (rename_i hy; simp only [List.mem_singleton] at hy; subst hy; rfl) | with_reducible rfl | skip
      refine AGood.filt [2, 3] ?_
      simp only [sf_cons, sf_nil, go_sem, simprocAttr]
      refine AGood.prune [2, 3, 4, 5] ?_; simp only [go_sem, simprocAttr]
      exact (ih (i + 1) (by omega) (by omega)).cast rfl rfl
  · have e4 : ¬ (i : Int) < ps.length := by omega
    clear ih
    repeat' (first
  | refine gSq ?_ | refine gSk ?_ | refine gBl ?_ | refine gIb ?_ | refine gEx rfl ?_
  | ((first
  | (refine gRg [] [0, 1, 2, 3, 4, 5, 6, 7, 22, 27, 80] ?_; intro K hK)
  | (refine gd_split ?_ ?_ <;> intro hb <;> (try simp only [bls] at hb) <;> (try simp only [hb]))
  | refine gRt [] [.tmp 4] rfl ?_ | refine gDn [] [.tmp 4] rfl ?_) <;> (try simp only [go_sem, simprocAttr, e4]))
  | (refine hK _ _ ?_; clear hK K; simp only [go_sem, simprocAttr])
  | refine gCd (by simp only [go_sem, simprocAttr]; rfl) rfl ?_
  | refine brT ?_ | refine brF ?_
  | (refine brS ?_ ?_ <;> intro hc <;> (try simp only [bls] at hc) <;> (try simp only [hc, bls]))
  | intro _ | refine And.intro ?_ ?_)
    all_goals first | omega | (unfold bigLen; omega) | exact ⟨_, _, ⟨rfl, rfl⟩, rfl⟩ | exact ⟨_, rfl⟩ | (rename_i hy; simp only [List.mem_singleton] at hy; subst hy; rfl) | with_reducible rfl | skip
theorem set9uc (c : Nat) (hc : c ≤ 255) : ACall Tryz.prog 20 [.int .u8 c] [] fun r s => r = .agg ([c].foldl withI ISet.none).cells ∧ s = [] := by
  have h := fun q f => of_c q f [c] (fun x hx => by simp at hx; omega) (by simp)
  simp only [bytesL, List.map_cons, List.map_nil] at h
  generalize [c].foldl withI ISet.none = S at h
  obtain ⟨sa, sb, sc, sd⟩ := S
  simp only [ISet.cells] at h ⊢
  refine ACall.enter Tryz.func20 rfl (by kernel_rfl) (Nat.le_of_ble_eq_true rfl) ?_; simp only [initTm, Nat.reduceAdd]
  repeat' (first
  | refine gSq ?_ | refine gSk ?_ | refine gBl ?_ | refine gIb ?_ | refine gEx rfl ?_
  | ((first
  | (refine gRg [4] [0, 2] ?_; intro K hK)
  | refine cAl (h _ _) rfl rfl rfl ?_
  | (refine gd_split ?_ ?_ <;> intro hb <;> (try simp only [bls] at hb) <;> (try simp only [hb]))
  | refine gRt [] [.cell 2 39] rfl ?_ | refine gDn [] [.cell 2 39] rfl ?_) <;> (try simp only [go_sem, simprocAttr]))
  | (refine hK _ _ ?_; clear hK K; simp only [go_sem, simprocAttr])
  | refine gCd (by simp only [go_sem, simprocAttr]; rfl) rfl ?_
  | refine brT ?_ | refine brF ?_
  | (refine brS ?_ ?_ <;> intro hc <;> (try simp only [bls] at hc) <;> (try simp only [hc, bls]))
  | intro _ | refine And.intro ?_ ?_)
  all_goals first | omega | (unfold bigLen; omega) | exact ⟨_, _, ⟨rfl, rfl⟩, rfl⟩ | exact ⟨_, rfl⟩ | (rename_i hy; simp only [List.mem_singleton] at hy; subst hy; rfl) | with_reducible rfl | skip
theorem u9a : [97].foldl withI ISet.none = ⟨0, 8589934592, 0, 0⟩ := by decide +kernel
theorem u9b : [98].foldl withI ISet.none = ⟨0, 17179869184, 0, 0⟩ := by decide +kernel
theorem u9c : [99].foldl withI ISet.none = ⟨0, 34359738368, 0, 0⟩ := by decide +kernel
theorem shown9uc : ACall Tryz.prog 8 [] [] fun r s => r = .bool true ∧ s = [] := by
  have hO : ∀ b, ACall _ _ [.sl true b [[.sl true false (nodes t9a)], [.sl true false (nodes t9b)]]] [] _ := fun b => of9F_c b [t9a, t9b] (by decide) (by unfold ndOk; decide +kernel)
  rw [g9] at hO
  have ha := of9a
  have hb := of9b
  have sA := set9uc 97 (by decide)
  have sB := set9uc 98 (by decide)
  have sC := set9uc 99 (by decide)
  rw [u9a] at sA
  rw [u9b] at sB
  rw [u9c] at sC
  have hS := fun b1 b2 b3 b4 => Same9uc b1 b2 b3 b4 [0, 2] w9 (by decide) (by decide) (by decide +kernel)
  generalize nodes t9a = A at ha hO
  generalize nodes t9b = B at hb hO
  simp only [List.map_cons, List.map_nil, ISet.cells, Int.cast_ofNat_Int] at hO sA sB sC hS
  refine ACall.enter Tryz.func8 rfl (by kernel_rfl) (Nat.le_of_ble_eq_true rfl) ?_; simp only [initTm, Nat.reduceAdd]
  repeat' (first
  | refine gSq ?_ | refine gSk ?_ | refine gBl ?_ | refine gIb ?_ | refine gEx rfl ?_
  | ((first
  | (refine gRg [8, 12, 15, 19, 24] [0, 1, 2, 3, 4] ?_; intro K hK)
  | refine cAl (ha) rfl rfl rfl ?_
  | refine cAl (hb) rfl rfl rfl ?_
  | refine cAl (sA) rfl rfl rfl ?_
  | refine cAl (sB) rfl rfl rfl ?_
  | refine cAl (sC) rfl rfl rfl ?_
  | refine cAl (hS _ _ _ _) rfl rfl rfl ?_
  | (refine ACall.mono (hO _) ?_; rintro _ _ ⟨rfl, rfl⟩)
  | (refine gd_split ?_ ?_ <;> intro hb <;> (try simp only [bls] at hb) <;> (try simp only [hb]))
  | refine gRt [] [.tmp 0] rfl ?_ | refine gDn [] [.tmp 0] rfl ?_) <;> (try simp only [go_sem, simprocAttr, AVal.isCell, Option.some.injEq, exists_eq_left', forall_eq']))
  | (refine hK _ _ ?_; clear hK K; simp only [go_sem, simprocAttr])
  | refine gCd (by simp only [go_sem, simprocAttr]; rfl) rfl ?_
  | refine brT ?_ | refine brF ?_
  | (refine brS ?_ ?_ <;> intro hc <;> (try simp only [bls] at hc) <;> (try simp only [hc, bls]))
  | intro _ | refine And.intro ?_ ?_)
  all_goals first | omega | (unfold bigLen; omega) | exact ⟨_, _, ⟨rfl, rfl⟩, rfl⟩ | exact ⟨_, rfl⟩ | (rename_i hy; simp only [List.mem_singleton] at hy; subst hy; rfl) | with_reducible rfl | skip
  all_goals trace_state
end Go.Rad
/- Rising lists, and whether places may be so (layer 9). -/
namespace Go.Rad
open Go Go.Proofs
set_option linter.all false
set_option maxRecDepth 20000
set_option maxHeartbeats 4000000

def risG (m : Int) : Int → List Int → Bool
  | _, [] => true
  | p, k :: l => !(decide (k ≤ p) || decide (m ≤ k)) && risG m k l
theorem rises9uc (q f : Bool) (l : List Int) (m : Int) (hl : l.length ≤ maxLen) : ACall Tryz.prog 25 [.sl q f (ints l), .int .i64 m] [] fun r s => r = .bool (risG m (-1) l) ∧ s = [] := by
  unfold maxLen at hl
  obtain ⟨O, hO⟩ : ∃ O, O = risG m (-1) l := ⟨_, rfl⟩
  rw [← hO]
  refine ACall.enter Tryz.func25 rfl (by kernel_rfl) (Nat.le_of_ble_eq_true rfl) ?_; simp only [initTm, Nat.reduceAdd]
  repeat' (first
  | refine gSq ?_ | refine gSk ?_ | refine gBl ?_ | refine gIb ?_ | refine gEx rfl ?_
  | ((first
  | (refine gRg [] [0, 1, 4, 5, 7, 8, 9, 10, 11, 21] ?_; intro K hK)
  | (refine gd_split ?_ ?_ <;> intro hb <;> (try simp only [bls] at hb) <;> (try simp only [hb]))
  | refine gRt [] [.tmp 4] rfl ?_ | refine gDn [] [.tmp 4] rfl ?_) <;> (try simp only [go_sem, simprocAttr]))
  | (refine hK _ _ ?_; clear hK K; simp only [go_sem, simprocAttr])
  | refine gCd (by simp only [go_sem, simprocAttr]; rfl) rfl ?_
  | refine brT ?_ | refine brF ?_
  | (refine brS ?_ ?_ <;> intro hc <;> (try simp only [bls] at hc) <;> (try simp only [hc, bls]))
  | intro _ | refine And.intro ?_ ?_)
  all_goals first | omega | (unfold bigLen; omega) | exact ⟨_, _, ⟨rfl, rfl⟩, rfl⟩ | exact ⟨_, rfl⟩ | (rename_i hy; simp only [List.mem_singleton] at hy; subst hy; rfl) | with_reducible rfl | skip
  refine AGood.prune [1, 4, 5, 8, 9, 10] ?_; simp only [go_sem, simprocAttr]
  refine AGood.loopInv (α := Nat × Int) (fun z => ([(1, .int .i64 m), (4, .bool false), (5, .int .i64 z.2), (8, .sl q f (ints l)), (9, .int .i64 l.length), (10, .int .i64 z.1)], [])) (fun z => z.1 ≤ l.length ∧ O = risG m z.2 (l.drop z.1)) (fun z => l.length - z.1) (0, -1) ⟨Nat.zero_le _, hO⟩ rfl ?_
  rintro ⟨i, p⟩ ⟨hi, hrun⟩ ih
  simp only at hi hrun ih ⊢
  by_cases hle : i < l.length
  · have e4 : (i : Int) < l.length := by omega
    have e5 : (0 : Int) ≤ i := by omega
    have e6 : (i : Int) + 1 = ((i + 1 : Nat) : Int) := by omega
    obtain ⟨k, hx⟩ : ∃ x, l[i]? = some x := ⟨_, List.getElem?_eq_getElem hle⟩
    have hdr : l.drop i = k :: l.drop (i + 1) := by
      obtain ⟨h1, h2⟩ := List.getElem?_eq_some_iff.1 hx
      rw [List.drop_eq_getElem_cons h1, h2]
    rw [hdr, risG] at hrun
    by_cases k1 : k ≤ p
    · have hz : O = false := by rw [hrun]; simp [k1]
      subst hz
      clear ih hrun
      repeat' (first
  | refine gSq ?_ | refine gSk ?_ | refine gBl ?_ | refine gIb ?_ | refine gEx rfl ?_
  | ((first
  | (refine gRg [] [0, 1, 4, 5, 7, 8, 9, 10, 11, 21] ?_; intro K hK)
  | (refine gd_split ?_ ?_ <;> intro hb <;> (try simp only [bls] at hb) <;> (try simp only [hb]))
  | refine gRt [] [.tmp 4] rfl ?_ | refine gDn [] [.tmp 4] rfl ?_) <;> (try simp only [go_sem, simprocAttr, e4, e5, e6, hx, k1, eq_self, Option.some.injEq, forall_eq']))
  | (refine hK _ _ ?_; clear hK K; simp only [go_sem, simprocAttr])
  | refine gCd (by simp only [go_sem, simprocAttr]; rfl) rfl ?_
  | refine brT ?_ | refine brF ?_
  | (refine brS ?_ ?_ <;> intro hc <;> (try simp only [bls] at hc) <;> (try simp only [hc, bls]))
  | intro _ | refine And.intro ?_ ?_)
      all_goals first | omega | (unfold bigLen; omega) | exact ⟨_, _, ⟨rfl, rfl⟩, rfl⟩ | exact ⟨_, rfl⟩ | (rename_i hy; simp only [List.mem_singleton] at hy; subst hy; rfl) | with_reducible rfl | skip
    by_cases k2 : m ≤ k
    · have hz : O = false := by rw [hrun]; simp [k2]
      subst hz
      clear ih hrun
      repeat' (first
  | refine gSq ?_ | refine gSk ?_ | refine gBl ?_ | refine gIb ?_ | refine gEx rfl ?_
  | ((first
  | (refine gRg [] [0, 1, 4, 5, 7, 8, 9, 10, 11, 21] ?_; intro K hK)
  | (refine gd_split ?_ ?_ <;> intro hb <;> (try simp only [bls] at hb) <;> (try simp only [hb]))
  | refine gRt [] [.tmp 4] rfl ?_ | refine gDn [] [.tmp 4] rfl ?_) <;> (try simp only [go_sem, simprocAttr, e4, e5, e6, hx, k1, k2, eq_self, Option.some.injEq, forall_eq']))
  | (refine hK _ _ ?_; clear hK K; simp only [go_sem, simprocAttr])
  | refine gCd (by simp only [go_sem, simprocAttr]; rfl) rfl ?_
  | refine brT ?_ | refine brF ?_
  | (refine brS ?_ ?_ <;> intro hc <;> (try simp only [bls] at hc) <;> (try simp only [hc, bls]))
  | intro _ | refine And.intro ?_ ?_)
      all_goals first | omega | (unfold bigLen; omega) | exact ⟨_, _, ⟨rfl, rfl⟩, rfl⟩ | exact ⟨_, rfl⟩ | (rename_i hy; simp only [List.mem_singleton] at hy; subst hy; rfl) | with_reducible rfl | skip
    simp only [k1, k2, decide_false, Bool.or_self, Bool.not_false, Bool.true_and] at hrun
    repeat' (first
  | refine gSq ?_ | refine gSk ?_ | refine gBl ?_ | refine gIb ?_ | refine gEx rfl ?_
  | ((first
  | (refine gRg [] [0, 1, 4, 5, 7, 8, 9, 10, 11, 21] ?_; intro K hK)
  | (refine gd_split ?_ ?_ <;> intro hb <;> (try simp only [bls] at hb) <;> (try simp only [hb]))
  | refine gRt [] [.tmp 4] rfl ?_ | refine gDn [] [.tmp 4] rfl ?_) <;> (try simp only [go_sem, simprocAttr, e4, e5, e6, hx, k1, k2, eq_self, Option.some.injEq, forall_eq']))
  | (refine hK _ _ ?_; clear hK K; simp only [go_sem, simprocAttr])
  | refine gCd (by simp only [go_sem, simprocAttr]; rfl) rfl ?_
  | refine brT ?_ | refine brF ?_
  | (refine brS ?_ ?_ <;> intro hc <;> (try simp only [bls] at hc) <;> (try simp only [hc, bls]))
  | intro _ | refine And.intro ?_ ?_)
    all_goals first | omega | (unfold bigLen; omega) | exact ⟨_, _, ⟨rfl, rfl⟩, rfl⟩ | exact ⟨_, rfl⟩ | (rename_i hy; simp only [List.mem_singleton] at hy; subst hy; rfl) | with_reducible rfl | skip
    refine AGood.prune [1, 4, 5, 8, 9, 10] ?_; simp only [go_sem, simprocAttr]
    exact (ih (i + 1, k) ⟨by omega, hrun⟩ (by simp only; omega)).cast rfl rfl
  · have e4 : ¬ (i : Int) < l.length := by omega
    rw [List.drop_eq_nil_of_le (by omega), risG] at hrun
    subst hrun
    clear ih
    repeat' (first
  | refine gSq ?_ | refine gSk ?_ | refine gBl ?_ | refine gIb ?_ | refine gEx rfl ?_
  | ((first
  | (refine gRg [] [0, 1, 4, 5, 7, 8, 9, 10, 11, 21] ?_; intro K hK)
  | (refine gd_split ?_ ?_ <;> intro hb <;> (try simp only [bls] at hb) <;> (try simp only [hb]))
  | refine gRt [] [.tmp 4] rfl ?_ | refine gDn [] [.tmp 4] rfl ?_) <;> (try simp only [go_sem, simprocAttr, e4]))
  | (refine hK _ _ ?_; clear hK K; simp only [go_sem, simprocAttr])
  | refine gCd (by simp only [go_sem, simprocAttr]; rfl) rfl ?_
  | refine brT ?_ | refine brF ?_
  | (refine brS ?_ ?_ <;> intro hc <;> (try simp only [bls] at hc) <;> (try simp only [hc, bls]))
  | intro _ | refine And.intro ?_ ?_)
    all_goals first | omega | (unfold bigLen; omega) | exact ⟨_, _, ⟨rfl, rfl⟩, rfl⟩ | exact ⟨_, rfl⟩ | (rename_i hy; simp only [List.mem_singleton] at hy; subst hy; rfl) | with_reducible rfl | skip
/-- May a place be so, of so many? -/
def mayG (m : Int) (p : Po) : Bool := !(decide (p.s = ISet.none) || decide (p.lo < 1) || decide (p.hi < p.lo) || decide (4096 < p.hi) || decide (p.rule < 0) || decide (512 ≤ p.rule)) && risG m (-1) p.next
theorem none_cells (s : ISet) : s.cells = [.int .u64 0, .int .u64 0, .int .u64 0, .int .u64 0] ↔ s = ISet.none := by
  obtain ⟨a, b, c, d⟩ := s
  simp [ISet.cells, ISet.none]
theorem may9uc (m : Int) (p : Po) (hl : p.next.length ≤ maxLen) : ACall Tryz.prog 28 [.agg p.cells, .int .i64 m] [] fun r s => r = .bool (mayG m p) ∧ s = [] := by
  have hc := fun q f => rises9uc q f p.next m hl
  have hsn := none_cells p.s
  obtain ⟨O, hO⟩ : ∃ O, O = mayG m p := ⟨_, rfl⟩
  rw [← hO]
  unfold mayG at hO
  obtain ⟨s, lo, hi, rule, la, nx⟩ := p
  simp only at hc hO hsn hl
  generalize risG m (-1) nx = R at hO hc
  by_cases k1 : s = ISet.none
  · subst k1
    simp only [decide_true, Bool.true_or, Bool.not_true, Bool.false_and] at hO
    subst hO
    simp only [Po.cells, Po.cellsF, ISet.cells, ISet.none]
    refine ACall.enter Tryz.func28 rfl (by kernel_rfl) (Nat.le_of_ble_eq_true rfl) ?_; simp only [initTm, Nat.reduceAdd]
    repeat' (first
  | refine gSq ?_ | refine gSk ?_ | refine gBl ?_ | refine gIb ?_ | refine gEx rfl ?_
  | ((first
  | (refine gRg [] [0, 1, 2, 4] ?_; intro K hK)
  | (refine gd_split ?_ ?_ <;> intro hb <;> (try simp only [bls] at hb) <;> (try simp only [hb]))
  | refine gRt [] [.tmp 4] rfl ?_ | refine gDn [] [.tmp 4] rfl ?_) <;> (try simp only [go_sem, simprocAttr, eq_self, beq_self_eq_true]))
  | (refine hK _ _ ?_; clear hK K; simp only [go_sem, simprocAttr])
  | refine gCd (by simp only [go_sem, simprocAttr]; rfl) rfl ?_
  | refine brT ?_ | refine brF ?_
  | (refine brS ?_ ?_ <;> intro hc <;> (try simp only [bls] at hc) <;> (try simp only [hc, bls]))
  | intro _ | refine And.intro ?_ ?_)
    all_goals first | omega | (unfold bigLen; omega) | exact ⟨_, _, ⟨rfl, rfl⟩, rfl⟩ | exact ⟨_, rfl⟩ | (rename_i hy; simp only [List.mem_singleton] at hy; subst hy; rfl) | with_reducible rfl | skip
  have hs : ¬ s.cells = [.int .u64 0, .int .u64 0, .int .u64 0, .int .u64 0] := fun h => k1 (hsn.1 h)
  clear hsn
  obtain ⟨sa, sb, sc, sd⟩ := s
  simp only [Po.cells, Po.cellsF, ISet.cells] at hs ⊢
  simp only [List.cons.injEq, AVal.int.injEq, true_and, and_true] at hs
  by_cases k2 : lo < 1
  · have e : ¬ 1 ≤ lo := by omega
    simp only [k2, decide_true, Bool.true_or, Bool.or_true, Bool.not_true, Bool.false_and] at hO
    subst hO
    clear hc
    refine ACall.enter Tryz.func28 rfl (by kernel_rfl) (Nat.le_of_ble_eq_true rfl) ?_; simp only [initTm, Nat.reduceAdd]
    repeat' (first
  | refine gSq ?_ | refine gSk ?_ | refine gBl ?_ | refine gIb ?_ | refine gEx rfl ?_
  | ((first
  | (refine gRg [] [0, 1, 2, 4] ?_; intro K hK)
  | (refine gd_split ?_ ?_ <;> intro hb <;> (try simp only [bls] at hb) <;> (try simp only [hb]))
  | refine gRt [] [.tmp 4] rfl ?_ | refine gDn [] [.tmp 4] rfl ?_) <;> (try simp only [go_sem, simprocAttr, hs, e, eq_self]))
  | (refine hK _ _ ?_; clear hK K; simp only [go_sem, simprocAttr])
  | refine gCd (by simp only [go_sem, simprocAttr]; rfl) rfl ?_
  | refine brT ?_ | refine brF ?_
  | (refine brS ?_ ?_ <;> intro hc <;> (try simp only [bls] at hc) <;> (try simp only [hc, bls]))
  | intro _ | refine And.intro ?_ ?_)
    all_goals first | omega | (unfold bigLen; omega) | exact ⟨_, _, ⟨rfl, rfl⟩, rfl⟩ | exact ⟨_, rfl⟩ | (rename_i hy; simp only [List.mem_singleton] at hy; subst hy; rfl) | with_reducible rfl | skip
  have e2 : 1 ≤ lo := by omega
  by_cases k3 : hi < lo
  · have e : ¬ lo ≤ hi := by omega
    simp only [k3, decide_true, Bool.true_or, Bool.or_true, Bool.not_true, Bool.false_and] at hO
    subst hO
    clear hc
    refine ACall.enter Tryz.func28 rfl (by kernel_rfl) (Nat.le_of_ble_eq_true rfl) ?_; simp only [initTm, Nat.reduceAdd]
    repeat' (first
  | refine gSq ?_ | refine gSk ?_ | refine gBl ?_ | refine gIb ?_ | refine gEx rfl ?_
  | ((first
  | (refine gRg [] [0, 1, 2, 4] ?_; intro K hK)
  | (refine gd_split ?_ ?_ <;> intro hb <;> (try simp only [bls] at hb) <;> (try simp only [hb]))
  | refine gRt [] [.tmp 4] rfl ?_ | refine gDn [] [.tmp 4] rfl ?_) <;> (try simp only [go_sem, simprocAttr, hs, e2, e, eq_self]))
  | (refine hK _ _ ?_; clear hK K; simp only [go_sem, simprocAttr])
  | refine gCd (by simp only [go_sem, simprocAttr]; rfl) rfl ?_
  | refine brT ?_ | refine brF ?_
  | (refine brS ?_ ?_ <;> intro hc <;> (try simp only [bls] at hc) <;> (try simp only [hc, bls]))
  | intro _ | refine And.intro ?_ ?_)
    all_goals first | omega | (unfold bigLen; omega) | exact ⟨_, _, ⟨rfl, rfl⟩, rfl⟩ | exact ⟨_, rfl⟩ | (rename_i hy; simp only [List.mem_singleton] at hy; subst hy; rfl) | with_reducible rfl | skip
  have e3 : lo ≤ hi := by omega
  by_cases k4 : 4096 < hi
  · have e : ¬ hi ≤ 4096 := by omega
    simp only [k4, decide_true, Bool.true_or, Bool.or_true, Bool.not_true, Bool.false_and] at hO
    subst hO
    clear hc
    refine ACall.enter Tryz.func28 rfl (by kernel_rfl) (Nat.le_of_ble_eq_true rfl) ?_; simp only [initTm, Nat.reduceAdd]
    repeat' (first
  | refine gSq ?_ | refine gSk ?_ | refine gBl ?_ | refine gIb ?_ | refine gEx rfl ?_
  | ((first
  | (refine gRg [] [0, 1, 2, 4] ?_; intro K hK)
  | (refine gd_split ?_ ?_ <;> intro hb <;> (try simp only [bls] at hb) <;> (try simp only [hb]))
  | refine gRt [] [.tmp 4] rfl ?_ | refine gDn [] [.tmp 4] rfl ?_) <;> (try simp only [go_sem, simprocAttr, hs, e2, e3, e, eq_self]))
  | (refine hK _ _ ?_; clear hK K; simp only [go_sem, simprocAttr])
  | refine gCd (by simp only [go_sem, simprocAttr]; rfl) rfl ?_
  | refine brT ?_ | refine brF ?_
  | (refine brS ?_ ?_ <;> intro hc <;> (try simp only [bls] at hc) <;> (try simp only [hc, bls]))
  | intro _ | refine And.intro ?_ ?_)
    all_goals first | omega | (unfold bigLen; omega) | exact ⟨_, _, ⟨rfl, rfl⟩, rfl⟩ | exact ⟨_, rfl⟩ | (rename_i hy; simp only [List.mem_singleton] at hy; subst hy; rfl) | with_reducible rfl | skip
  have e4 : hi ≤ 4096 := by omega
  by_cases k5 : rule < 0
  · have e : ¬ 0 ≤ rule := by omega
    simp only [k5, decide_true, Bool.true_or, Bool.or_true, Bool.not_true, Bool.false_and] at hO
    subst hO
    clear hc
    refine ACall.enter Tryz.func28 rfl (by kernel_rfl) (Nat.le_of_ble_eq_true rfl) ?_; simp only [initTm, Nat.reduceAdd]
    repeat' (first
  | refine gSq ?_ | refine gSk ?_ | refine gBl ?_ | refine gIb ?_ | refine gEx rfl ?_
  | ((first
  | (refine gRg [] [0, 1, 2, 4] ?_; intro K hK)
  | (refine gd_split ?_ ?_ <;> intro hb <;> (try simp only [bls] at hb) <;> (try simp only [hb]))
  | refine gRt [] [.tmp 4] rfl ?_ | refine gDn [] [.tmp 4] rfl ?_) <;> (try simp only [go_sem, simprocAttr, hs, e2, e3, e4, e, eq_self]))
  | (refine hK _ _ ?_; clear hK K; simp only [go_sem, simprocAttr])
  | refine gCd (by simp only [go_sem, simprocAttr]; rfl) rfl ?_
  | refine brT ?_ | refine brF ?_
  | (refine brS ?_ ?_ <;> intro hc <;> (try simp only [bls] at hc) <;> (try simp only [hc, bls]))
  | intro _ | refine And.intro ?_ ?_)
    all_goals first | omega | (unfold bigLen; omega) | exact ⟨_, _, ⟨rfl, rfl⟩, rfl⟩ | exact ⟨_, rfl⟩ | (rename_i hy; simp only [List.mem_singleton] at hy; subst hy; rfl) | with_reducible rfl | skip
  have e5 : 0 ≤ rule := by omega
  by_cases k6 : 512 ≤ rule
  · have e : ¬ rule < 512 := by omega
    simp only [k6, decide_true, Bool.true_or, Bool.or_true, Bool.not_true, Bool.false_and] at hO
    subst hO
    clear hc
    refine ACall.enter Tryz.func28 rfl (by kernel_rfl) (Nat.le_of_ble_eq_true rfl) ?_; simp only [initTm, Nat.reduceAdd]
    repeat' (first
  | refine gSq ?_ | refine gSk ?_ | refine gBl ?_ | refine gIb ?_ | refine gEx rfl ?_
  | ((first
  | (refine gRg [] [0, 1, 2, 4] ?_; intro K hK)
  | (refine gd_split ?_ ?_ <;> intro hb <;> (try simp only [bls] at hb) <;> (try simp only [hb]))
  | refine gRt [] [.tmp 4] rfl ?_ | refine gDn [] [.tmp 4] rfl ?_) <;> (try simp only [go_sem, simprocAttr, hs, e2, e3, e4, e5, e, eq_self]))
  | (refine hK _ _ ?_; clear hK K; simp only [go_sem, simprocAttr])
  | refine gCd (by simp only [go_sem, simprocAttr]; rfl) rfl ?_
  | refine brT ?_ | refine brF ?_
  | (refine brS ?_ ?_ <;> intro hc <;> (try simp only [bls] at hc) <;> (try simp only [hc, bls]))
  | intro _ | refine And.intro ?_ ?_)
    all_goals first | omega | (unfold bigLen; omega) | exact ⟨_, _, ⟨rfl, rfl⟩, rfl⟩ | exact ⟨_, rfl⟩ | (rename_i hy; simp only [List.mem_singleton] at hy; subst hy; rfl) | with_reducible rfl | skip
  have e6 : rule < 512 := by omega
  simp only [k1, k2, k3, k4, k5, k6, decide_false, Bool.or_self, Bool.not_false, Bool.true_and] at hO
  subst hO
  refine ACall.enter Tryz.func28 rfl (by kernel_rfl) (Nat.le_of_ble_eq_true rfl) ?_; simp only [initTm, Nat.reduceAdd]
  repeat' (first
  | refine gSq ?_ | refine gSk ?_ | refine gBl ?_ | refine gIb ?_ | refine gEx rfl ?_
  | ((first
  | (refine gRg [] [0, 1, 2, 4] ?_; intro K hK)
  | refine cAl (hc _ _) rfl rfl rfl ?_
  | (refine gd_split ?_ ?_ <;> intro hb <;> (try simp only [bls] at hb) <;> (try simp only [hb]))
  | refine gRt [] [.tmp 4] rfl ?_ | refine gDn [] [.tmp 4] rfl ?_) <;> (try simp only [go_sem, simprocAttr, hs, e2, e3, e4, e5, e6, eq_self]))
  | (refine hK _ _ ?_; clear hK K; simp only [go_sem, simprocAttr])
  | refine gCd (by simp only [go_sem, simprocAttr]; rfl) rfl ?_
  | refine brT ?_ | refine brF ?_
  | (refine brS ?_ ?_ <;> intro hc <;> (try simp only [bls] at hc) <;> (try simp only [hc, bls]))
  | intro _ | refine And.intro ?_ ?_)
  all_goals first | omega | (unfold bigLen; omega) | exact ⟨_, _, ⟨rfl, rfl⟩, rfl⟩ | exact ⟨_, rfl⟩ | (rename_i hy; simp only [List.mem_singleton] at hy; subst hy; rfl) | with_reducible rfl | skip
  all_goals (rename_i hb; exact absurd (by simpa using hb) hs)
end Go.Rad
/- Whether places may be so (layer 9): glush's answer. -/
namespace Go.Rad
open Go Go.Proofs
set_option linter.all false
set_option maxRecDepth 20000
set_option maxHeartbeats 4000000

def idxQ (p : Po → Bool) : List Po → Nat → Int
  | [], _ => -1
  | x :: l, i => if p x = true then (i : Int) else idxQ p l (i + 1)
theorem idxQ_any (p : Po → Bool) : ∀ (l : List Po) (i : Nat), decide (0 ≤ idxQ p l i) = l.any p
  | [], _ => rfl
  | x :: l, i => by
    rw [idxQ, List.any_cons]
    cases h : p x
    · simp only [Bool.false_eq_true, if_false, Bool.false_or]; exact idxQ_any p l (i + 1)
    · simp only [if_true, Bool.true_or]; exact decide_eq_true (by omega)
theorem indexQ_c (F : Nat) (cs : List AVal) (p : Po → Bool) (q f : Bool) (l : List Po) (hl : l.length ≤ 1000000)
    (hF : ∀ x ∈ l, ACall Tryz.prog F [.agg x.cells, .ref true cs] [] fun r s => r = .bool (p x) ∧ s = []) :
    ACall Tryz.prog 46 [.sl q f (poss l), .fn F [.ref true cs]] [] fun r s => r = .int .i64 (idxQ p l 0) ∧ s = [] := by
  obtain ⟨S, hS⟩ : ∃ S, S = idxQ p l 0 := ⟨_, rfl⟩
  rw [← hS]
  refine ACall.enter Tryz.func46 rfl (by kernel_rfl) (Nat.le_of_ble_eq_true rfl) ?_; simp only [initTm, Nat.reduceAdd]
  repeat' (first
  | refine gSq ?_ | refine gSk ?_ | refine gBl ?_ | refine gIb ?_ | refine gEx rfl ?_
  | ((first
  | (refine gRg [] [0, 1, 4, 5, 7, 8, 9, 16] ?_; intro K hK)
  | (refine gd_split ?_ ?_ <;> intro hb <;> (try simp only [bls] at hb) <;> (try simp only [hb]))
  | refine gRt [] [.tmp 4] rfl ?_ | refine gDn [] [.tmp 4] rfl ?_) <;> (try simp only [go_sem, simprocAttr]))
  | (refine hK _ _ ?_; clear hK K; simp only [go_sem, simprocAttr])
  | refine gCd (by simp only [go_sem, simprocAttr]; rfl) rfl ?_
  | refine brT ?_ | refine brF ?_
  | (refine brS ?_ ?_ <;> intro hc <;> (try simp only [bls] at hc) <;> (try simp only [hc, bls]))
  | intro _ | refine And.intro ?_ ?_)
  refine AGood.prune [0, 1, 4, 7, 8] ?_; simp only [go_sem, simprocAttr]
  refine AGood.loopInv (α := Nat) (fun i => ([(0, .sl q f (poss l)), (1, .fn F [.ref true cs]), (4, .int .i64 0), (7, .int .i64 l.length), (8, .int .i64 i)], [])) (fun i => i ≤ l.length ∧ S = idxQ p (l.drop i) i) (fun i => l.length - i) 0 ⟨Nat.zero_le _, hS⟩ rfl ?_
  rintro i ⟨hi, hrun⟩ ih
  simp only
  by_cases hle : i < l.length
  · have e4 : (i : Int) < l.length := by omega
    have e5 : (0 : Int) ≤ i := by omega
    have e6 : (i : Int) + 1 = ((i + 1 : Nat) : Int) := by omega
    have hx : l[i]? = some l[i] := List.getElem?_eq_getElem hle
    have hc := hF l[i] (List.getElem_mem hle)
    have hdr : l.drop i = l[i] :: l.drop (i + 1) := List.drop_eq_getElem_cons hle
    rw [hdr, idxQ] at hrun
    generalize l[i] = k at hx hc hrun
    cases hp : p k <;> rw [hp] at hrun hc <;> simp only [if_true, Bool.false_eq_true, if_false] at hrun
    · repeat' (first
  | refine gSq ?_ | refine gSk ?_ | refine gBl ?_ | refine gIb ?_ | refine gEx rfl ?_
  | ((first
  | (refine gRg [] [0, 1, 4, 5, 7, 8, 9, 16] ?_; intro K hK)
  | (refine ACall.mono hc ?_; rintro _ _ ⟨rfl, rfl⟩)
  | (refine gd_split ?_ ?_ <;> intro hb <;> (try simp only [bls] at hb) <;> (try simp only [hb]))
  | refine gRt [] [.tmp 4] rfl ?_ | refine gDn [] [.tmp 4] rfl ?_) <;> (try simp only [go_sem, simprocAttr, e4, e5, e6, hx, Option.some.injEq, forall_eq']))
  | (refine hK _ _ ?_; clear hK K; simp only [go_sem, simprocAttr])
  | refine gCd (by simp only [go_sem, simprocAttr]; rfl) rfl ?_
  | refine brT ?_ | refine brF ?_
  | (refine brS ?_ ?_ <;> intro hc <;> (try simp only [bls] at hc) <;> (try simp only [hc, bls]))
  | intro _ | refine And.intro ?_ ?_)
      all_goals first | omega | (unfold bigLen; omega) | exact ⟨_, _, ⟨rfl, rfl⟩, rfl⟩ | exact ⟨_, rfl⟩ | (rename_i hy; simp only [List.mem_singleton] at hy; subst hy; rfl) | with_reducible rfl | skip
      refine AGood.prune [0, 1, 4, 7, 8] ?_; simp only [go_sem, simprocAttr]
      exact (ih (i + 1) ⟨by omega, hrun⟩ (by omega)).cast rfl rfl
    · repeat' (first
  | refine gSq ?_ | refine gSk ?_ | refine gBl ?_ | refine gIb ?_ | refine gEx rfl ?_
  | ((first
  | (refine gRg [] [0, 1, 4, 5, 7, 8, 9, 16] ?_; intro K hK)
  | (refine ACall.mono hc ?_; rintro _ _ ⟨rfl, rfl⟩)
  | (refine gd_split ?_ ?_ <;> intro hb <;> (try simp only [bls] at hb) <;> (try simp only [hb]))
  | refine gRt [] [.tmp 4] rfl ?_ | refine gDn [] [.tmp 4] rfl ?_) <;> (try simp only [go_sem, simprocAttr, e4, e5, e6, hx, Option.some.injEq, forall_eq']))
  | (refine hK _ _ ?_; clear hK K; simp only [go_sem, simprocAttr])
  | refine gCd (by simp only [go_sem, simprocAttr]; rfl) rfl ?_
  | refine brT ?_ | refine brF ?_
  | (refine brS ?_ ?_ <;> intro hc <;> (try simp only [bls] at hc) <;> (try simp only [hc, bls]))
  | intro _ | refine And.intro ?_ ?_)
      all_goals first | omega | (unfold bigLen; omega) | exact ⟨_, _, ⟨rfl, rfl⟩, rfl⟩ | exact ⟨_, rfl⟩ | (rename_i hy; simp only [List.mem_singleton] at hy; subst hy; rfl) | with_reducible rfl | skip
      rw [hrun]
  · have e4 : ¬ (i : Int) < l.length := by omega
    rw [List.drop_of_length_le (by omega), idxQ] at hrun
    subst hrun
    repeat' (first
  | refine gSq ?_ | refine gSk ?_ | refine gBl ?_ | refine gIb ?_ | refine gEx rfl ?_
  | ((first
  | (refine gRg [] [0, 1, 4, 5, 7, 8, 9, 16] ?_; intro K hK)
  | (refine gd_split ?_ ?_ <;> intro hb <;> (try simp only [bls] at hb) <;> (try simp only [hb]))
  | refine gRt [] [.tmp 4] rfl ?_ | refine gDn [] [.tmp 4] rfl ?_) <;> (try simp only [go_sem, simprocAttr, e4]))
  | (refine hK _ _ ?_; clear hK K; simp only [go_sem, simprocAttr])
  | refine gCd (by simp only [go_sem, simprocAttr]; rfl) rfl ?_
  | refine brT ?_ | refine brF ?_
  | (refine brS ?_ ?_ <;> intro hc <;> (try simp only [bls] at hc) <;> (try simp only [hc, bls]))
  | intro _ | refine And.intro ?_ ?_)
theorem containsQ_c (F : Nat) (cs : List AVal) (p : Po → Bool) (q f : Bool) (l : List Po) (hl : l.length ≤ 1000000)
    (hF : ∀ x ∈ l, ACall Tryz.prog F [.agg x.cells, .ref true cs] [] fun r s => r = .bool (p x) ∧ s = []) :
    ACall Tryz.prog 26 [.sl q f (poss l), .fn F [.ref true cs]] [] fun r s => r = .bool (l.any p) ∧ s = [] := by
  have hc := indexQ_c F cs p q f l hl hF
  rw [← idxQ_any p l 0]
  generalize idxQ p l 0 = S at hc
  refine ACall.enter Tryz.func26 rfl (by kernel_rfl) (Nat.le_of_ble_eq_true rfl) ?_; simp only [initTm, Nat.reduceAdd]
  repeat' (first
  | refine gSq ?_ | refine gSk ?_ | refine gBl ?_ | refine gIb ?_ | refine gEx rfl ?_
  | ((first
  | (refine gRg [] [0, 1, 4] ?_; intro K hK)
  | refine cAl (hc) rfl rfl rfl ?_
  | (refine gd_split ?_ ?_ <;> intro hb <;> (try simp only [bls] at hb) <;> (try simp only [hb]))
  | refine gRt [] [.tmp 4] rfl ?_ | refine gDn [] [.tmp 4] rfl ?_) <;> (try simp only [go_sem, simprocAttr]))
  | (refine hK _ _ ?_; clear hK K; simp only [go_sem, simprocAttr])
  | refine gCd (by simp only [go_sem, simprocAttr]; rfl) rfl ?_
  | refine brT ?_ | refine brF ?_
  | (refine brS ?_ ?_ <;> intro hc <;> (try simp only [bls] at hc) <;> (try simp only [hc, bls]))
  | intro _ | refine And.intro ?_ ?_)
  all_goals first | omega | (unfold bigLen; omega) | exact ⟨_, _, ⟨rfl, rfl⟩, rfl⟩ | exact ⟨_, rfl⟩ | (rename_i hy; simp only [List.mem_singleton] at hy; subst hy; rfl) | with_reducible rfl | skip
theorem rightx_c (q1 q2 f1 f2 : Bool) (fi : List Int) (ps : List Po) (p : Po) (hn : p.next.length ≤ maxLen) : ACall Tryz.prog 27 [.agg p.cells, .ref true [.sl q1 f1 (ints fi), .sl q2 f2 (poss ps)]] [] fun r s => r = .bool (!mayG ps.length p) ∧ s = [] := by
  have h := may9uc ps.length p hn
  generalize mayG ps.length p = R at h
  obtain ⟨⟨sa, sb, sc, sd⟩, lo, hi, ru, la, nx⟩ := p
  simp only [Po.cells, Po.cellsF, ISet.cells] at h ⊢
  refine ACall.enter Tryz.func27 rfl (by kernel_rfl) (Nat.le_of_ble_eq_true rfl) ?_; simp only [initTm, Nat.reduceAdd]
  repeat' (first
  | refine gSq ?_ | refine gSk ?_ | refine gBl ?_ | refine gIb ?_ | refine gEx rfl ?_
  | ((first
  | (refine gRg [] [0, 1, 2, 3] ?_; intro K hK)
  | refine cAl (h) rfl rfl rfl ?_
  | (refine gd_split ?_ ?_ <;> intro hb <;> (try simp only [bls] at hb) <;> (try simp only [hb]))
  | refine gRt [] [.tmp 3] rfl ?_ | refine gDn [] [.tmp 3] rfl ?_) <;> (try simp only [go_sem, simprocAttr]))
  | (refine hK _ _ ?_; clear hK K; simp only [go_sem, simprocAttr])
  | refine gCd (by simp only [go_sem, simprocAttr]; rfl) rfl ?_
  | refine brT ?_ | refine brF ?_
  | (refine brS ?_ ?_ <;> intro hc <;> (try simp only [bls] at hc) <;> (try simp only [hc, bls]))
  | intro _ | refine And.intro ?_ ?_)
  all_goals first | omega | (unfold bigLen; omega) | exact ⟨_, _, ⟨rfl, rfl⟩, rfl⟩ | exact ⟨_, rfl⟩ | (rename_i hy; simp only [List.mem_singleton] at hy; subst hy; rfl) | with_reducible rfl | skip
/-- May places be so? -/
def rightG (fi : List Int) (ps : List Po) : Bool := decide (ps.length ≤ 512) && risG ps.length (-1) fi && !ps.any fun p => !mayG ps.length p
theorem gright_c (f1 f2 : Bool) (fi : List Int) (ps : List Po) (h1 : fi.length ≤ maxLen) (h2 : ps.length ≤ 1000000) (hn : ∀ p ∈ ps, p.next.length ≤ maxLen) :
    ACall Tryz.prog 11 [.agg [.sl true f1 (ints fi), .sl true f2 (poss ps)]] [] fun r s => r = .bool (rightG fi ps) ∧ s = [] := by
  have hr := fun q f => rises9uc q f fi ps.length h1
  have hq := fun q => containsQ_c 27 [.sl true f1 (ints fi), .sl true f2 (poss ps)] (fun p => !mayG ps.length p) q f2 ps h2 fun p hp => rightx_c true true f1 f2 fi ps p (hn p hp)
  obtain ⟨O, hO⟩ : ∃ O, O = rightG fi ps := ⟨_, rfl⟩
  rw [← hO]
  unfold rightG at hO
  generalize risG ps.length (-1) fi = R at hr hO
  generalize ps.any (fun p => !mayG ps.length p) = Q at hq hO
  clear hn
  by_cases k1 : (512 : Int) < ps.length
  · have k2 : ¬ ps.length ≤ 512 := by omega
    simp only [k2, decide_false, Bool.false_and] at hO
    subst hO
    refine ACall.enter Tryz.func11 rfl (by kernel_rfl) (Nat.le_of_ble_eq_true rfl) ?_; simp only [initTm, Nat.reduceAdd]
    repeat' (first
  | refine gSq ?_ | refine gSk ?_ | refine gBl ?_ | refine gIb ?_ | refine gEx rfl ?_
  | ((first
  | (refine gRg [] [0, 1, 2, 15] ?_; intro K hK)
  | (refine gd_split ?_ ?_ <;> intro hb <;> (try simp only [bls] at hb) <;> (try simp only [hb]))
  | refine gRt [] [.tmp 2] rfl ?_ | refine gDn [] [.tmp 2] rfl ?_) <;> (try simp only [go_sem, simprocAttr, k1]))
  | (refine hK _ _ ?_; clear hK K; simp only [go_sem, simprocAttr])
  | refine gCd (by simp only [go_sem, simprocAttr]; rfl) rfl ?_
  | refine brT ?_ | refine brF ?_
  | (refine brS ?_ ?_ <;> intro hc <;> (try simp only [bls] at hc) <;> (try simp only [hc, bls]))
  | intro _ | refine And.intro ?_ ?_)
    all_goals first | omega | (unfold bigLen; omega) | exact ⟨_, _, ⟨rfl, rfl⟩, rfl⟩ | exact ⟨_, rfl⟩ | (rename_i hy; simp only [List.mem_singleton] at hy; subst hy; rfl) | with_reducible rfl | skip
  have k2 : ps.length ≤ 512 := by omega
  simp only [k2, decide_true, Bool.true_and] at hO
  cases R
  · simp only [Bool.false_and] at hO
    subst hO
    refine ACall.enter Tryz.func11 rfl (by kernel_rfl) (Nat.le_of_ble_eq_true rfl) ?_; simp only [initTm, Nat.reduceAdd]
    repeat' (first
  | refine gSq ?_ | refine gSk ?_ | refine gBl ?_ | refine gIb ?_ | refine gEx rfl ?_
  | ((first
  | (refine gRg [] [0, 1, 2, 15] ?_; intro K hK)
  | refine cAl (hr _ _) rfl rfl rfl ?_
  | (refine gd_split ?_ ?_ <;> intro hb <;> (try simp only [bls] at hb) <;> (try simp only [hb]))
  | refine gRt [] [.tmp 2] rfl ?_ | refine gDn [] [.tmp 2] rfl ?_) <;> (try simp only [go_sem, simprocAttr, k1]))
  | (refine hK _ _ ?_; clear hK K; simp only [go_sem, simprocAttr])
  | refine gCd (by simp only [go_sem, simprocAttr]; rfl) rfl ?_
  | refine brT ?_ | refine brF ?_
  | (refine brS ?_ ?_ <;> intro hc <;> (try simp only [bls] at hc) <;> (try simp only [hc, bls]))
  | intro _ | refine And.intro ?_ ?_)
    all_goals first | omega | (unfold bigLen; omega) | exact ⟨_, _, ⟨rfl, rfl⟩, rfl⟩ | exact ⟨_, rfl⟩ | (rename_i hy; simp only [List.mem_singleton] at hy; subst hy; rfl) | with_reducible rfl | skip
  · simp only [Bool.true_and] at hO
    subst hO
    refine ACall.enter Tryz.func11 rfl (by kernel_rfl) (Nat.le_of_ble_eq_true rfl) ?_; simp only [initTm, Nat.reduceAdd]
    repeat' (first
  | refine gSq ?_ | refine gSk ?_ | refine gBl ?_ | refine gIb ?_ | refine gEx rfl ?_
  | ((first
  | (refine AGood.at 3 ?_; (refine AGood.boxRef 1 1 rfl rfl rfl ?_; simp only [go_sem, simprocAttr]); (refine gRg [] [0, 1, 2, 15] ?_; intro K hK))
  | (refine gRg [] [0, 1, 2, 15] ?_; intro K hK)
  | refine cAl (hr _ _) rfl rfl rfl ?_
  | refine cAl (hq _) rfl rfl rfl ?_
  | (refine gd_split ?_ ?_ <;> intro hb <;> (try simp only [bls] at hb) <;> (try simp only [hb]))
  | refine gRt [] [.tmp 2] rfl ?_ | refine gDn [] [.tmp 2] rfl ?_) <;> (try simp only [go_sem, simprocAttr, k1]))
  | (refine hK _ _ ?_; clear hK K; simp only [go_sem, simprocAttr])
  | refine gCd (by simp only [go_sem, simprocAttr]; rfl) rfl ?_
  | refine brT ?_ | refine brF ?_
  | (refine brS ?_ ?_ <;> intro hc <;> (try simp only [bls] at hc) <;> (try simp only [hc, bls]))
  | intro _ | refine And.intro ?_ ?_)
    all_goals first | omega | (unfold bigLen; omega) | exact ⟨_, _, ⟨rfl, rfl⟩, rfl⟩ | exact ⟨_, rfl⟩ | (rename_i hy; simp only [List.mem_singleton] at hy; subst hy; rfl) | with_reducible rfl | skip
end Go.Rad
/- Contracts: the first plans that are not great. -/
namespace Go.Rad
open Go Go.Proofs
set_option linter.all false
set_option maxRecDepth 20000
set_option maxHeartbeats 4000000

def fewS : Nat → List (List Node) → List (List Node)
  | _, [] => []
  | i, x :: l => (if i < 6 ∧ x.length ≤ 200 then [x] else []) ++ fewS (i + 1) l
theorem fewS_in : ∀ (l : List (List Node)) (i : Nat), (∀ x ∈ fewS i l, x ∈ l ∧ x.length ≤ 200) ∧ (fewS i l).length ≤ 6 - i
  | [], i => ⟨fun x hx => by simp [fewS] at hx, by simp [fewS]⟩
  | y :: l, i => by
    obtain ⟨h1, h2⟩ := fewS_in l (i + 1)
    refine ⟨fun x hx => ?_, ?_⟩
    · rw [fewS, List.mem_append] at hx
      rcases hx with hx | hx
      · split at hx
        · rename_i hc; rw [List.mem_singleton.1 hx]; exact ⟨by simp, hc.2⟩
        · simp at hx
      · exact ⟨by simp [(h1 x hx).1], (h1 x hx).2⟩
    · rw [fewS, List.length_append]
      split
      · rename_i hc; simp only [List.length_cons, List.length_nil]; omega
      · simp only [List.length_nil]; omega
theorem few_c (f : Bool) (l : List (List Node)) (hl : l.length ≤ maxLen) (hx : ∀ x ∈ l, x.length ≤ maxLen) :
    ACall Tryz.prog 6 [.sl true f (trees l)] [] fun r s => r = .sl true false (trees (fewS 0 l)) ∧ s = [] := by
  obtain ⟨S, hS⟩ : ∃ S, S = fewS 0 l := ⟨_, rfl⟩
  rw [← hS]
  unfold maxLen at hl hx
  refine ACall.enter Tryz.func6 rfl (by kernel_rfl) (Nat.le_of_ble_eq_true rfl) ?_; simp only [initTm, Nat.reduceAdd]
  repeat' (first
  | refine gSq ?_ | refine gSk ?_ | refine gBl ?_ | refine gIb ?_ | refine gEx rfl ?_
  | ((first
  | (refine gRg [] [0, 2, 3, 4, 5, 6, 7, 8, 9, 19] ?_; intro K hK)
  | (refine gd_split ?_ ?_ <;> intro hb <;> (try simp only [bls] at hb) <;> (try simp only [hb]))
  | refine gRt [] [.tmp 2] rfl ?_ | refine gDn [] [.tmp 2] rfl ?_) <;> (try simp only [go_sem, simprocAttr]))
  | (refine hK _ _ ?_; clear hK K; simp only [go_sem, simprocAttr])
  | refine gCd (by simp only [go_sem, simprocAttr]; rfl) rfl ?_
  | refine brT ?_ | refine brF ?_
  | (refine brS ?_ ?_ <;> intro hc <;> (try simp only [bls] at hc) <;> (try simp only [hc, bls]))
  | intro _ | refine And.intro ?_ ?_)
  all_goals first | omega | (unfold bigLen; omega) | exact ⟨_, _, ⟨rfl, rfl⟩, rfl⟩ | exact ⟨_, rfl⟩ | (rename_i hy; simp only [List.mem_singleton] at hy; subst hy; rfl) | with_reducible rfl | skip
  refine AGood.ownTm 3 900 1 (by decide) rfl fun g9 => ?_
  simp only [go_sem, simprocAttr]
  refine AGood.prune [0, 3, 6, 7, 8] ?_; simp only [go_sem, simprocAttr]
  refine AGood.loopInv (α := Nat × Nat × List (List Node)) (fun z => ([(0, .sl true f (trees l)), (3, .osl 900 z.2.1 0 z.2.2.length), (6, .sl true f (trees l)), (7, .int .i64 l.length), (8, .int .i64 z.1)], [(900, (z.2.1, .row 1 (trees z.2.2)))])) (fun z => z.1 ≤ l.length ∧ z.2.2.length ≤ z.1 ∧ S = z.2.2 ++ fewS z.1 (l.drop z.1)) (fun z => l.length - z.1) (0, g9, []) ⟨Nat.zero_le _, Nat.le_refl _, hS⟩ rfl ?_
  rintro ⟨i, g9, o⟩ ⟨hi, hol, hrun⟩ ih
  simp only at hi hol hrun ih ⊢
  by_cases hle : i < l.length
  · have e4 : (i : Int) < l.length := by omega
    have e5 : (0 : Int) ≤ i := by omega
    have e6 : (i : Int) + 1 = ((i + 1 : Nat) : Int) := by omega
    obtain ⟨x, hx1⟩ : ∃ x, l[i]? = some x := ⟨_, List.getElem?_eq_getElem hle⟩
    have hx2 := hx x (List.mem_of_getElem? hx1)
    have hdr : l.drop i = x :: l.drop (i + 1) := by
      obtain ⟨h1, h2⟩ := List.getElem?_eq_some_iff.1 hx1
      rw [List.drop_eq_getElem_cons h1, h2]
    rw [hdr, fewS] at hrun
    by_cases h6 : i < 6
    · have e7 : (i : Int) < 6 := by omega
      by_cases h200 : x.length ≤ 200
      · have e8 : (x.length : Int) ≤ 200 := by omega
        rw [if_pos ⟨h6, h200⟩] at hrun
        repeat' (first
  | refine gSq ?_ | refine gSk ?_ | refine gBl ?_ | refine gIb ?_ | refine gEx rfl ?_
  | ((first
  | (refine gRg [22] [0, 2, 3, 4, 5, 6, 7, 8, 9, 19] ?_; intro K hK)
  | (refine gd_split ?_ ?_ <;> intro hb <;> (try simp only [bls] at hb) <;> (try simp only [hb]))
  | refine gRt [] [.tmp 2] rfl ?_ | refine gDn [] [.tmp 2] rfl ?_) <;> (try simp only [go_sem, simprocAttr, e4, e5, e6, e7, e8, hx1, Option.some.injEq, forall_eq']))
  | (refine hK _ _ ?_; clear hK K; simp only [go_sem, simprocAttr])
  | refine gCd (by simp only [go_sem, simprocAttr]; rfl) rfl ?_
  | refine brT ?_ | refine brF ?_
  | (refine brS ?_ ?_ <;> intro hc <;> (try simp only [bls] at hc) <;> (try simp only [hc, bls]))
  | intro _ | refine And.intro ?_ ?_)
        all_goals first | omega | (unfold bigLen; omega) | exact ⟨_, _, ⟨rfl, rfl⟩, rfl⟩ | exact ⟨_, rfl⟩ | (rename_i hy; simp only [List.mem_singleton] at hy; subst hy; rfl) | with_reducible rfl | skip
        rename_i h9
        refine AGood.filt [900] ?_
        simp only [sf_cons, sf_nil, go_sem, simprocAttr]
        refine AGood.prune [0, 3, 6, 7, 8] ?_; simp only [go_sem, simprocAttr]
        exact AGood.cast (ih (i + 1, h9, o ++ [x]) ⟨by simp only; omega, by simp; omega, by simp only [hrun, List.append_assoc]⟩ (by simp only; omega)) (by simp) (by simp)
      · have e8 : ¬ (x.length : Int) ≤ 200 := by omega
        rw [if_neg (fun h => h200 h.2), List.nil_append] at hrun
        repeat' (first
  | refine gSq ?_ | refine gSk ?_ | refine gBl ?_ | refine gIb ?_ | refine gEx rfl ?_
  | ((first
  | (refine gRg [] [0, 2, 3, 4, 5, 6, 7, 8, 9, 19] ?_; intro K hK)
  | (refine gd_split ?_ ?_ <;> intro hb <;> (try simp only [bls] at hb) <;> (try simp only [hb]))
  | refine gRt [] [.tmp 2] rfl ?_ | refine gDn [] [.tmp 2] rfl ?_) <;> (try simp only [go_sem, simprocAttr, e4, e5, e6, e7, e8, hx1, Option.some.injEq, forall_eq']))
  | (refine hK _ _ ?_; clear hK K; simp only [go_sem, simprocAttr])
  | refine gCd (by simp only [go_sem, simprocAttr]; rfl) rfl ?_
  | refine brT ?_ | refine brF ?_
  | (refine brS ?_ ?_ <;> intro hc <;> (try simp only [bls] at hc) <;> (try simp only [hc, bls]))
  | intro _ | refine And.intro ?_ ?_)
        all_goals first | omega | (unfold bigLen; omega) | exact ⟨_, _, ⟨rfl, rfl⟩, rfl⟩ | exact ⟨_, rfl⟩ | (rename_i hy; simp only [List.mem_singleton] at hy; subst hy; rfl) | with_reducible rfl | skip
        refine AGood.prune [0, 3, 6, 7, 8] ?_; simp only [go_sem, simprocAttr]
        exact AGood.cast (ih (i + 1, g9, o) ⟨by simp only; omega, by simp only; omega, hrun⟩ (by simp only; omega)) rfl rfl
    · have e7 : ¬ (i : Int) < 6 := by omega
      rw [if_neg (fun h => h6 h.1), List.nil_append] at hrun
      repeat' (first
  | refine gSq ?_ | refine gSk ?_ | refine gBl ?_ | refine gIb ?_ | refine gEx rfl ?_
  | ((first
  | (refine gRg [] [0, 2, 3, 4, 5, 6, 7, 8, 9, 19] ?_; intro K hK)
  | (refine gd_split ?_ ?_ <;> intro hb <;> (try simp only [bls] at hb) <;> (try simp only [hb]))
  | refine gRt [] [.tmp 2] rfl ?_ | refine gDn [] [.tmp 2] rfl ?_) <;> (try simp only [go_sem, simprocAttr, e4, e5, e6, e7, hx1, Option.some.injEq, forall_eq']))
  | (refine hK _ _ ?_; clear hK K; simp only [go_sem, simprocAttr])
  | refine gCd (by simp only [go_sem, simprocAttr]; rfl) rfl ?_
  | refine brT ?_ | refine brF ?_
  | (refine brS ?_ ?_ <;> intro hc <;> (try simp only [bls] at hc) <;> (try simp only [hc, bls]))
  | intro _ | refine And.intro ?_ ?_)
      all_goals first | omega | (unfold bigLen; omega) | exact ⟨_, _, ⟨rfl, rfl⟩, rfl⟩ | exact ⟨_, rfl⟩ | (rename_i hy; simp only [List.mem_singleton] at hy; subst hy; rfl) | with_reducible rfl | skip
      refine AGood.prune [0, 3, 6, 7, 8] ?_; simp only [go_sem, simprocAttr]
      exact AGood.cast (ih (i + 1, g9, o) ⟨by simp only; omega, by simp only; omega, hrun⟩ (by simp only; omega)) rfl rfl
  · have e4 : ¬ (i : Int) < l.length := by omega
    rw [List.drop_of_length_le (by omega), fewS, List.append_nil] at hrun
    subst hrun
    clear ih
    have c15 : (trees S).take S.length = trees S := List.take_of_length_le (by simp)
    repeat' (first
  | refine gSq ?_ | refine gSk ?_ | refine gBl ?_ | refine gIb ?_ | refine gEx rfl ?_
  | ((first
  | (refine AGood.at 8 ?_; (refine AGood.freeze 900 rfl ?_; simp only [rfT, rfS, rfO, rf, rf1, c15, List.length_map, Nat.le_refl, true_and, go_sem, simprocAttr]); (refine gRg [] [0, 2, 3, 4, 5, 6, 7, 8, 9, 19] ?_; intro K hK))
  | (refine gRg [] [0, 2, 3, 4, 5, 6, 7, 8, 9, 19] ?_; intro K hK)
  | (refine gd_split ?_ ?_ <;> intro hb <;> (try simp only [bls] at hb) <;> (try simp only [hb]))
  | refine gRt [] [.tmp 2] rfl ?_ | refine gDn [] [.tmp 2] rfl ?_) <;> (try simp only [go_sem, simprocAttr, e4]))
  | (refine hK _ _ ?_; clear hK K; simp only [go_sem, simprocAttr])
  | refine gCd (by simp only [go_sem, simprocAttr]; rfl) rfl ?_
  | refine brT ?_ | refine brF ?_
  | (refine brS ?_ ?_ <;> intro hc <;> (try simp only [bls] at hc) <;> (try simp only [hc, bls]))
  | intro _ | refine And.intro ?_ ?_)
    all_goals first | omega | (unfold bigLen; omega) | exact ⟨_, _, ⟨rfl, rfl⟩, rfl⟩ | exact ⟨_, rfl⟩ | (rename_i hy; simp only [List.mem_singleton] at hy; subst hy; rfl) | with_reducible rfl | skip
end Go.Rad
