/- A call on known things, reckoned: the contract. -/
import Derived.Test.YtejdlelhlpnabaaKRRun
import Derived.Test.YtejdlelhlpnabaaKRNode
import Derived.Test.YtejdlelhlpnabaaKRGlob
import Derived.Test.YtejdlelhlpnabaaKRLent
set_option linter.all false
namespace Go.Rad
open Go
variable {P : Program} {L : Lay}
theorem quiet_ok : Quiet P := fun f args v sto h1 h2 h3 h4 => ACall.alone (ACall.none h4) (map_self fun x hx => tr_flat (List.all_eq_true.1 h1 x hx)) (bk_flat h2) h3
/-- Rows that a result holds are given away. -/
def finCells : AVal → List AVal
  | .tup vs => vs
  | v => [v]
def xFin : Nat → AVal → Sto → Option AVal
  | 0, v, _ => some v
  | k + 1, v, s =>
    match firstOsl (finCells v) with
    | none => some v
    | some id =>
      match sget s id with
      | some (g, .row _ l) => req (okFs id g l.length v && okFS id g l.length (sdel s id)) (xFin k (rf id g l v) (rfS id g l (sdel s id)))
      | _ => none
theorem fin_post {E : Gh} {R : AVal → Prop} {e : Ending} {w' : World} {r : Nat → Nat} : ∀ (k : Nat) {v v' : AVal} {s : Sto}, xFin k v s = some v' → R (mg r v') → Post E (fun v1 s1 => v1 = mg r v ∧ s1 = mgS r s) e w' → Post E (fun v1 _ => R v1) e w'
  | 0, v, v', s, h, hR, hp => by
    simp only [xFin, Option.some.injEq] at h; subst h
    exact hp.mono (.refl E) fun _ _ hx => by rw [hx.1]; exact hR
  | k + 1, v, v', s, h, hR, ⟨G', cr, r1, s1, h1, h2, h3, h4, h5, h6, h7⟩ => by
    simp only [xFin] at h
    split at h
    · cases h; exact ⟨G', cr, r1, s1, h1, h2, h3, h4, h5, by rw [h6]; exact hR⟩
    · split at h
      · rename_i g esz l hg
        simp only [req_iff, Bool.and_eq_true] at h
        obtain ⟨⟨hk1, hk2⟩, h⟩ := h
        subst h6 h7
        obtain ⟨G2, q1, q2, q3, q4⟩ := all_freeze (g := r g) (esz := esz) (l := l) h3 h4 (by rw [sget_mgS, hg]; rfl)
        refine fin_post k h hR ⟨G2, cr, _, _, h1, h2.trans q1, q2, q3, q4 _ _ h5, rf_mg hk1, ?_⟩
        rw [← sdel_mgS, ← rfS_mg _ hk2]
      · cases h
def rowIds : Sto → List Nat
  | [] => []
  | (i, _, .row _ _) :: s => i :: rowIds s
  | _ :: s => rowIds s
theorem sfilt_mg {r : Nat → Nat} {keep : List Nat} : ∀ s : Sto, mgS r (sfilt keep s) = sfilt keep (mgS r s)
  | [] => rfl
  | (i, g, o) :: s => by
    have ih := sfilt_mg (r := r) (keep := keep) s
    simp only [sf_cons, mgS]
    split
    · simp only [mgS, ih]
    · exact ih
/-- A closed call that is reckoned, and tells a thing that leads nowhere. -/
def ran (x : Option (AVal × Sto × Nat)) : Option AVal := x.bind fun x => (xFin 4 x.1 (sfilt (rowIds x.2.1) x.2.1)).bind fun v => req (flat v) (some v)
theorem run_c (hL : LOk P L) (hm : P.follows .mixedOrders = true) (hn : (P.funcs.all fun fn => !(fn.name == "runtime.NumGoroutine")) = true) (tab : Nat → Tab) {kn : Known1} (hkn : KnOk P kn) (fs : List Nat) (hfs : fs.all (fnOk P L tab) = true) (fuel k : Nat) {f : Nat} {args : List AVal} {v : AVal} (ha : args.all flat = true) (h : ran (xCall P L tab kn fuel fs k false f args [] 1000) = some v) :
    ACall P f args [] fun r s => r = v ∧ s = [] := by
  simp only [ran, Option.bind_eq_some_iff, req_iff, Option.some.injEq] at h
  obtain ⟨⟨u, s, n⟩, h1, u', h2, h3, rfl⟩ := h
  have h4 := (xCall_ok hL hm hn quiet_ok hkn hfs k false f args [] 1000 _ _ _ h1).2.2 id
  rw [map_self fun x hx => mg_id (flat_bd (List.all_eq_true.1 ha x hx))] at h4
  refine ACall.none ⟨h4.able, fun G w cargs a b c => (h4.calls G w cargs a b c).mono fun e w' p => ?_⟩
  obtain ⟨G', cr, r1, s1, x1, x2, x3, x4, x5, r', _, rfl, rfl⟩ := p
  exact fin_post (R := fun r => r = u') 4 h2 (mg_id (flat_bd h3)) ⟨G', cr, _, _, x1, x2, x3, sto_filt (rowIds s) x4, x5, rfl, (sfilt_mg s).symm⟩
end Go.Rad
/- What the run of closed calls must know of each function. -/
namespace Go.Rad
open Go
def rtabs : List Tab := [
  ⟨[], []⟩,
  ⟨[], []⟩,
  ⟨[], []⟩,
  ⟨[0, 1, 4, 5, 6, 7, 8, 9, 10, 11, 22], []⟩,
  ⟨[0, 2, 3, 4, 5, 6, 7, 9, 11, 13, 22], []⟩,
  ⟨[0, 1, 4, 5, 6, 7, 8, 9, 10, 11, 12, 13, 14, 15, 25, 26, 27, 44, 45, 46, 62, 79], []⟩,
  ⟨[0, 1, 2, 6, 7, 8, 9, 10, 11, 12, 13, 27, 39, 60, 62, 63, 64, 74], [(14, ⟨9, [0, 1, 2, 3, 4, 5, 6, 7, 8], [], [], [], []⟩)]⟩,
  ⟨[0, 1, 4, 5, 6, 7, 8, 9, 10, 24], []⟩,
  ⟨[0, 1, 4, 5, 6, 7, 8, 10, 11, 13, 27, 51, 52, 53, 54, 55, 71, 74, 75, 76, 77], []⟩,
  ⟨[0, 1, 4, 5, 6, 7, 8], []⟩,
  ⟨[0, 1, 2, 6, 7, 8, 9, 10, 11, 12, 13, 14, 15, 16, 17, 18, 19, 20, 30, 32, 33, 34, 35, 42, 68, 108, 110, 111, 112, 130, 135, 144], [(24, ⟨8, [0, 1, 2, 3, 4, 5, 6, 7, 8, 9, 10, 11], [], [], [14, 16], [116, 120]⟩)]⟩,
  ⟨[0, 1, 4, 5, 6, 7, 8, 9, 10, 11, 12, 13, 42], []⟩,
  ⟨[0, 1, 2, 6, 7, 8, 9, 10, 11, 12, 13, 14, 25, 41, 51, 66], []⟩,
  ⟨[0, 1, 4, 7, 10, 13, 16, 17, 19], []⟩,
  ⟨[0, 1, 4, 5, 6, 8, 10, 18, 23, 24, 25, 26, 45], [(7, ⟨8, [0, 1, 2, 3, 4, 5, 6, 7, 8], [], [], [], []⟩)]⟩,
  ⟨[0, 2], []⟩,
  ⟨[0, 2, 3, 4, 5, 6, 7, 8, 9, 20], []⟩,
  ⟨[0, 2, 3, 7, 15], []⟩,
  ⟨[0, 1, 4, 5, 6, 7, 8, 13, 17, 69, 74, 87], [(13, ⟨11, [0, 1, 2, 3, 4, 5, 6, 7, 8, 9, 10], [], [], [], []⟩)]⟩,
  ⟨[0, 2], []⟩,
  ⟨[0, 2, 3, 5, 7, 8, 9, 10, 28], []⟩,
  ⟨[0], []⟩,
  ⟨[0, 2, 3, 4, 5, 6, 8, 12, 13, 14, 15, 20, 21, 22, 23, 41, 64], [(9, ⟨12, [0, 1, 2, 3, 4, 5, 6, 7, 8, 9, 10, 11, 12], [], [], [], []⟩)]⟩,
  ⟨[0, 1, 4, 5, 6, 17, 28], []⟩,
  ⟨[0, 1, 2, 6, 7, 8, 9, 10, 23, 39, 45], []⟩,
  ⟨[0, 2], []⟩,
  ⟨[0, 2, 4, 7, 8, 9, 10, 11, 42], []⟩,
  ⟨[0, 2, 3, 4, 7, 11, 36], []⟩,
  ⟨[0, 1, 4, 5, 6, 17, 38], []⟩,
  ⟨[0, 2, 3, 5, 8, 9, 10, 11, 12, 22], []⟩,
  ⟨[0, 2, 3, 4, 12, 28], []⟩,
  ⟨[0, 2, 3, 4, 5, 8, 16, 27, 41], [(8, ⟨11, [0, 1, 2, 3, 4, 5, 6, 7, 8, 9, 10], [], [], [], []⟩)]⟩,
  ⟨[0, 2, 3, 4, 5, 6, 14, 15, 16, 17, 18, 32, 45], [(10, ⟨7, [0, 1, 2, 3, 4, 5, 6], [], [], [], []⟩)]⟩,
  ⟨[0, 1, 4, 5, 6, 7, 8, 9, 13, 14, 15, 16, 22, 44], []⟩,
  ⟨[0, 2, 3, 4, 5, 6, 14, 18, 26, 43, 47, 55], []⟩,
  ⟨[0, 2, 3, 5, 6, 7, 24], []⟩,
  ⟨[0, 1, 4, 5, 8, 10], []⟩,
  ⟨[0, 2, 4], []⟩,
  ⟨[0, 1, 4, 5, 6, 8, 9, 17, 20, 28, 29, 30, 31], [(13, ⟨9, [0, 1, 2, 3, 4, 5, 6, 7, 8, 9], [], [], [], []⟩)]⟩,
  ⟨[0, 2], []⟩,
  ⟨[0, 2], []⟩,
  ⟨[0, 1, 2, 3, 8, 9, 10, 11, 12, 18, 19, 26, 32, 44, 52, 67], []⟩,
  ⟨[0, 1, 2], []⟩,
  ⟨[0, 1, 3, 4], []⟩,
  ⟨[0, 1, 4, 5, 6, 7, 18, 21, 29], []⟩,
  ⟨[0, 2, 3, 21, 43], [(2, ⟨15, [0, 1, 2, 3, 4, 5, 6, 7, 8, 9, 10, 11, 12, 13, 14], [], [], [], []⟩)]⟩,
  ⟨[0, 2], [(1, ⟨18, [0, 1, 2, 3, 4, 5, 6, 7, 8, 9, 10, 11, 12, 13, 14, 15, 16, 17], [], [], [], []⟩)]⟩,
  ⟨[0, 1, 2, 10], []⟩,
  ⟨[0, 1, 2, 3, 4, 12, 13, 21, 22, 55, 58, 62, 63, 71, 72], [(10, ⟨5, [0, 1, 2, 3, 4, 5, 6, 7], [], [], [1], [26]⟩)]⟩,
  ⟨[0, 1, 4, 5, 10, 12, 13, 14, 24], [(6, ⟨9, [0, 1, 2, 3, 4, 5, 6, 7, 8], [], [], [], []⟩)]⟩,
  ⟨[0, 1, 4, 5, 6, 7, 17, 20], []⟩,
  ⟨[0, 1, 2, 4, 6, 7, 8, 9, 15, 21, 22, 23, 24], [(7, ⟨8, [0, 1, 2, 3, 4, 5, 6, 7, 8], [], [], [], []⟩), (9, ⟨7, [0, 1, 2, 3, 4, 5, 6, 7, 8, 9, 10], [43], [], [], []⟩)]⟩,
  ⟨[0, 1, 2, 3, 4, 5, 6, 23, 24, 42, 59, 78, 125], []⟩,
  ⟨[0, 1, 2, 6, 7, 8, 9, 10, 11, 16, 25, 42, 52], []⟩,
  ⟨[0, 2], []⟩,
  ⟨[0, 2], []⟩,
  ⟨[0, 2, 3, 6], []⟩,
  ⟨[0, 1, 3, 4, 5, 6, 11, 24, 35], [(4, ⟨8, [0, 1, 2, 3, 4, 5, 6, 7], [], [], [], []⟩), (6, ⟨14, [0, 1, 2, 3, 4, 5, 6, 7, 8, 9, 10, 11, 12, 13], [], [], [], []⟩), (7, ⟨7, [0, 1, 2, 3, 4, 5, 6, 7, 8, 9], [], [], [3], [50, 52]⟩)]⟩,
  ⟨[0, 1, 2, 6], []⟩,
  ⟨[0, 1, 2, 3, 6, 7, 8, 14, 27], [(5, ⟨11, [0, 1, 2, 3, 4, 5, 6, 7, 8, 9, 10], [], [], [], []⟩)]⟩,
  ⟨[0, 1, 4, 5, 6, 13], []⟩,
  ⟨[0, 1, 2, 3, 5, 8, 9, 10, 11, 12, 13, 17, 30, 43, 59], []⟩,
  ⟨[0, 1, 3, 4, 5, 6, 7, 8, 9, 10, 11, 12, 13, 36, 39, 58, 85, 116, 127, 138], [(3, ⟨10, [0, 1, 2, 3, 4, 5, 6, 7, 8, 9], [], [], [], []⟩), (12, ⟨20, [0, 1, 2, 3, 4, 5, 6, 7, 8, 9, 10, 11, 12, 13, 14, 15, 16, 17, 18, 19], [], [], [], []⟩)]⟩,
  ⟨[0, 1, 3, 4, 10], [(4, ⟨7, [0, 1, 2, 3, 4, 5, 6, 7, 8, 9, 10], [20], [], [], []⟩)]⟩,
  ⟨[0, 2, 3, 30, 40, 43, 49], [(2, ⟨27, [0, 1, 2, 3, 4, 5, 6, 7, 8, 9, 10, 11, 12, 13, 14, 15, 16, 17, 18, 19, 20, 21, 22, 23, 24, 25, 26], [], [], [], []⟩)]⟩,
  ⟨[0, 1, 3, 4], [(1, ⟨7, [0, 1, 2, 3, 4, 5, 6, 7, 8, 9, 10], [11], [], [], []⟩)]⟩,
  ⟨[0, 2, 4], []⟩,
  ⟨[0, 2, 3, 7, 25], []⟩,
  ⟨[0, 1, 4, 5, 6, 7, 13, 14, 19, 25, 40, 49], [(8, ⟨6, [0, 1, 3, 4, 5, 6, 2, 7, 8, 9], [], [], [5], [30, 32]⟩)]⟩,
  ⟨[0, 1, 3, 4, 5, 6, 12, 13, 14, 16, 24, 36, 55], []⟩,
  ⟨[0, 1, 3, 4, 5, 8], [(2, ⟨10, [0, 1, 2, 3, 4, 5, 6, 7, 8, 9, 10, 11, 12], [], [], [3], [10, 12]⟩), (4, ⟨10, [0, 1, 2, 3, 4, 5, 6, 7, 8, 9, 10, 11, 12, 13, 14], [35], [], [3], [26]⟩)]⟩,
  ⟨[0, 1, 2, 3, 8, 9], [(2, ⟨14, [0, 1, 2, 3, 4, 5, 6, 7, 8, 9, 10, 11, 12, 13, 14, 15, 16, 17], [], [], [], []⟩)]⟩,
  ⟨[0, 1, 2, 4], []⟩,
  ⟨[0, 1, 4, 5, 9, 20], [(4, ⟨9, [0, 1, 2, 3, 4, 5, 6, 7, 8], [], [], [], []⟩)]⟩,
  ⟨[0, 1, 4, 5], []⟩,
  ⟨[0, 1, 2, 6, 7, 8, 9, 16, 28], []⟩,
  ⟨[0, 1, 4, 7], []⟩,
  ⟨[0, 2, 3, 4, 5, 6, 11, 22, 32, 42, 52, 90], [(4, ⟨10, [0, 1, 2, 3, 4, 5, 6, 7, 8, 9], [], [], [], []⟩), (14, ⟨29, [0, 1, 2, 3, 4, 5, 6, 7, 8, 9, 10, 11, 12, 13, 14, 15, 16, 17, 18, 19, 20, 21, 22, 23, 24, 25, 26, 27, 28], [], [], [], []⟩)]⟩,
  ⟨[0, 2], []⟩,
  ⟨[0, 2], []⟩,
  ⟨[0, 1, 2, 3, 4, 5, 6, 11, 20, 26, 47], [(4, ⟨5, [0, 1, 2, 3, 4], [17], [], [], []⟩), (12, ⟨11, [0, 1, 2, 3, 4, 5, 6, 7, 8, 9, 10], [], [], [], []⟩)]⟩,
  ⟨[0, 1, 2, 4, 6, 7, 8, 9, 50], []⟩,
  ⟨[0, 1, 4, 5, 12, 19, 26, 34], []⟩,
  ⟨[0, 1, 2, 6, 7, 8, 12, 18], []⟩,
  ⟨[0, 2, 3, 4, 14, 19, 24, 40, 72, 85, 105], [(1, ⟨10, [0, 1, 2, 3, 4, 5, 6, 7, 8, 9], [], [], [], []⟩), (9, ⟨30, [0, 1, 2, 3, 4, 5, 6, 7, 8, 9, 10, 11, 12, 13, 14, 15, 16, 17, 18, 19, 20, 21, 22, 23, 24, 25, 26, 27, 28, 29], [], [], [], []⟩)]⟩,
  ⟨[0, 2, 3, 4, 5, 6, 35, 57, 61, 63, 80, 116], [(5, ⟨15, [0, 1, 2, 3, 4, 5, 6, 7, 8, 9, 10, 11, 12, 13, 14], [], [], [], []⟩), (8, ⟨15, [0, 1, 2, 3, 4, 5, 6, 7, 8, 9, 10, 11, 12, 13, 14], [], [], [], []⟩), (15, ⟨10, [0, 1, 2, 3, 4, 5, 6, 7, 8, 9], [], [], [], []⟩)]⟩,
  ⟨[0, 1, 2, 3, 4, 6, 12], []⟩,
  ⟨[0, 2, 3, 4, 5, 9, 16, 23, 24, 26, 28, 35], [(16, ⟨17, [0, 1, 2, 3, 4, 5, 6, 7, 8, 9, 10, 11, 12, 13, 14, 15, 16], [], [], [], []⟩)]⟩,
  ⟨[0, 1, 2, 3, 4, 7, 14], []⟩,
  ⟨[0, 2, 3, 4, 9], [(5, ⟨6, [0, 1, 2, 3, 4, 5, 6], [], [], [], []⟩)]⟩,
  ⟨[0, 1, 2, 3, 4, 5, 11, 28], [(6, ⟨15, [0, 1, 2, 3, 4, 5, 6, 7, 8, 9, 10, 11, 12, 13, 14], [], [], [], []⟩), (7, ⟨10, [0, 1, 2, 3, 4, 5, 6, 7, 8, 9, 10], [], [], [], []⟩), (8, ⟨11, [0, 1, 2, 3, 4, 5, 6, 7, 8, 9, 10, 11, 12], [49], [], [], []⟩)]⟩,
  ⟨[0, 2, 4], []⟩,
  ⟨[0, 2, 3, 8, 39], []⟩,
  ⟨[0, 2, 3, 4, 5, 6, 7, 8, 31, 65, 83, 99, 113, 116, 121], [(2, ⟨16, [0, 1, 2, 3, 4, 5, 6, 7, 8, 9, 10, 11, 12, 13, 14, 15], [], [], [], []⟩), (6, ⟨26, [0, 1, 2, 3, 4, 5, 6, 7, 8, 9, 10, 11, 12, 13, 14, 15, 16, 17, 18, 19, 20, 21, 22, 23, 24, 25], [], [], [], []⟩), (9, ⟨15, [0, 1, 2, 3, 4, 5, 6, 7, 8, 9, 10, 11, 12, 13, 14], [], [], [], []⟩)]⟩,
  ⟨[0, 2, 3, 29, 38, 57], [(3, ⟨15, [0, 1, 2, 3, 4, 5, 6, 7, 8, 9, 10, 11, 12, 13, 14], [], [], [], []⟩), (8, ⟨12, [0, 1, 2, 3, 4, 5, 6, 7, 8, 9, 10, 11], [], [], [], []⟩), (12, ⟨13, [0, 1, 2, 3, 4, 5, 6, 7, 8, 9, 10, 11, 12, 13, 14], [], [], [], []⟩)]⟩,
  ⟨[0, 1, 4, 5, 9, 16], []⟩,
  ⟨[0], []⟩,
  ⟨[0, 2, 3, 4, 5, 6, 7, 29, 32, 56, 59, 62, 65, 78, 120, 126], [(1, ⟨10, [0, 1, 2, 3, 4, 5, 6, 7, 8, 9], [], [], [], []⟩), (9, ⟨10, [0, 1, 2, 3, 4, 5, 6, 7, 8, 9], [], [], [], []⟩), (18, ⟨11, [0, 1, 2, 3, 4, 5, 6, 7, 8, 9, 10], [], [], [], []⟩), (21, ⟨11, [0, 1, 2, 3, 4, 5, 6, 7, 8, 9, 10], [], [], [], []⟩), (22, ⟨12, [0, 1, 2, 3, 4, 5, 6, 7, 8, 9, 10, 11], [], [], [], []⟩)]⟩,
  ⟨[0, 2, 3, 4, 23, 70], [(3, ⟨15, [0, 1, 2, 3, 4, 5, 6, 7, 8, 9, 10, 11, 12, 13, 14], [], [], [], []⟩), (4, ⟨16, [0, 1, 2, 3, 4, 5, 6, 7, 8, 9, 10, 11, 12, 13, 14, 15], [], [], [], []⟩)]⟩,
  ⟨[0, 1, 2, 4, 8], []⟩,
  ⟨[0, 2, 4, 21], [(4, ⟨10, [0, 1, 2, 3, 4, 5, 6, 7, 8, 9], [], [], [], []⟩)]⟩,
  ⟨[0, 1, 4, 5, 6, 13], []⟩,
  ⟨[0, 2, 3, 4, 5, 8, 14, 23], []⟩,
  ⟨[0, 2, 4, 13], []⟩,
  ⟨[], []⟩,
  ⟨[], []⟩,
  ⟨[], []⟩,
  ⟨[], []⟩,
  ⟨[], []⟩,
  ⟨[], []⟩,
  ⟨[], []⟩,
  ⟨[], []⟩,
  ⟨[], []⟩,
  ⟨[], []⟩,
  ⟨[], []⟩,
  ⟨[], []⟩,
  ⟨[], []⟩,
  ⟨[], []⟩,
  ⟨[], []⟩,
  ⟨[], []⟩]
def rtab : Nat → Tab := fun f => rtabs.getD f ⟨[], []⟩
theorem no_num : (Go.Proofs.Try.prog.funcs.all fun fn => !(fn.name == "runtime.NumGoroutine")) = true := by decide +kernel
theorem kn_none : KnOk Go.Proofs.Try.prog (fun _ => none) := fun _ _ _ _ h => by cases h
theorem ran_c {kn : Known1} (hkn : KnOk Go.Proofs.Try.prog kn) (fs : List Nat) (hfs : fs.all (fnOk Go.Proofs.Try.prog LL rtab) = true) (fuel k : Nat) {f : Nat} {args : List AVal} {v : AVal} (ha : args.all flat = true) (h : ran (xCall Go.Proofs.Try.prog LL rtab kn fuel fs k false f args [] 1000) = some v) : ACall Go.Proofs.Try.prog f args [] fun r s => r = v ∧ s = [] := run_c LL_ok mixed no_num rtab hkn fs hfs fuel k ha h
end Go.Rad
/- What is known of some calls by their contracts, for the run of closed calls. -/
namespace Go.Rad
open Go Go.Proofs
def kIn : List AVal → Option AVal
  | [.int .u8 c, .str l] => req (decide (0 ≤ c) && Nat.ble l.size 1000000) (some (.bool (inS c.toNat l)))
  | _ => none
def decB : List (List AVal) → Option (List Nat)
  | [] => some []
  | [.int .u8 n] :: l => req (decide (0 ≤ n) && decide (n ≤ 255)) ((decB l).map (n.toNat :: ·))
  | _ => none
theorem decB_ok : ∀ {l : List (List AVal)} {bs : List Nat}, decB l = some bs → l = bytesL bs ∧ ∀ x ∈ bs, x ≤ 255
  | [], bs, h => by cases h; exact ⟨rfl, fun _ h => by cases h⟩
  | x :: l, bs, h => by
    unfold decB at h
    split at h
    · rename_i h1; cases h1
    · rename_i n l' h1
      cases h1
      simp only [req_iff, Bool.and_eq_true, decide_eq_true_eq] at h
      obtain ⟨⟨h1, h2⟩, h⟩ := h
      obtain ⟨bs', h3, rfl⟩ := mp_some h
      obtain ⟨h4, h5⟩ := decB_ok h3
      refine ⟨?_, fun x hx => ?_⟩
      · rw [h4]; simp only [bytesL, List.map_cons]; rw [Int.toNat_of_nonneg h1]
      · rcases List.mem_cons.1 hx with rfl | hx
        · omega
        · exact h5 x hx
    · cases h
def decS : List (List AVal) → Option (List ISet)
  | [] => some []
  | [.int .u64 a, .int .u64 b, .int .u64 c, .int .u64 d] :: l => (decS l).map (⟨a, b, c, d⟩ :: ·)
  | _ => none
theorem decS_ok : ∀ {l : List (List AVal)} {ss : List ISet}, decS l = some ss → l = sets ss
  | [], bs, h => by cases h; rfl
  | x :: l, bs, h => by
    unfold decS at h
    split at h
    · rename_i h1; cases h1
    · rename_i a b c d l' h1
      cases h1
      obtain ⟨bs', h3, rfl⟩ := mp_some h
      rw [decS_ok h3]; rfl
    · cases h
def kOf : List AVal → Option AVal
  | [.sl _ _ l] => (decB l).bind fun bs => req (Nat.ble bs.length 1000000) (some (.agg (bs.foldl withI ISet.none).cells))
  | _ => none
def kRange : List AVal → Option AVal
  | [.int .u8 lo, .int .u8 hi] => req (decide (0 ≤ lo) && decide (lo ≤ 255) && decide (0 ≤ hi) && decide (hi ≤ 255)) (some (.agg (rangeI lo.toNat hi.toNat).cells))
  | _ => none
def kOr : List AVal → Option AVal
  | [.sl _ _ l] => (decS l).bind fun ss => req (Nat.ble ss.length 1000000) (some (.agg (orI ss).cells))
  | _ => none
def kNot : List AVal → Option AVal
  | [.agg [.int .u64 a, .int .u64 b, .int .u64 c, .int .u64 d]] => some (.agg (notI ⟨a, b, c, d⟩).cells)
  | _ => none
def kName : List AVal → Option AVal
  | [.str s] => req (Nat.ble s.size maxLen) (some (.bool (nameOk s)))
  | _ => none
/-- One function's calls, and what else is known. -/
def kAdd (f0 : Nat) (g : List AVal → Option AVal) (kn : Known1) : Known1 := fun f => match Nat.beq f f0 with | true => some g | false => kn f
theorem kAdd_ok {f0 : Nat} {g : List AVal → Option AVal} {kn : Known1} (h : ∀ args v, g args = some v → ACall Try.prog f0 args [] fun r s => r = v ∧ s = []) (hk : KnOk Try.prog kn) : KnOk Try.prog (kAdd f0 g kn) := by
  intro f g' args v hg hv
  unfold kAdd at hg
  split at hg
  · rename_i e; cases hg; rw [Nat.eq_of_beq_eq_true e]; exact h args v hv
  · exact hk f g' args v hg hv
def kn4 : Known1 := kAdd 95 kIn (kAdd 89 kOf (kAdd 101 kRange (kAdd 102 kOr (kAdd 88 kNot (kAdd 67 kName fun _ => none)))))
theorem kn4uok : KnOk Try.prog kn4 := by
  refine kAdd_ok (fun args v h => ?_) (kAdd_ok (fun args v h => ?_) (kAdd_ok (fun args v h => ?_) (kAdd_ok (fun args v h => ?_) (kAdd_ok (fun args v h => ?_) (kAdd_ok (fun args v h => ?_) kn_none)))))
  · unfold kIn at h
    split at h
    · rename_i c l
      simp only [req_iff, Bool.and_eq_true, decide_eq_true_eq, Nat.ble_eq, Option.some.injEq] at h
      obtain ⟨⟨h1, h2⟩, rfl⟩ := h
      have := in4uc c.toNat l h2
      rwa [Int.toNat_of_nonneg h1] at this
    · cases h
  · unfold kOf at h
    split at h
    · simp only [Option.bind_eq_some_iff, req_iff, Nat.ble_eq, Option.some.injEq] at h
      obtain ⟨bs, h1, h2, rfl⟩ := h
      obtain ⟨rfl, h3⟩ := decB_ok h1
      exact of_c _ _ bs h3 h2
    · cases h
  · unfold kRange at h
    split at h
    · rename_i lo hi
      simp only [req_iff, Bool.and_eq_true, decide_eq_true_eq, Option.some.injEq] at h
      obtain ⟨⟨⟨⟨h1, h2⟩, h3⟩, h4⟩, rfl⟩ := h
      have := range_c lo.toNat hi.toNat (by omega) (by omega)
      rwa [Int.toNat_of_nonneg h1, Int.toNat_of_nonneg h3] at this
    · cases h
  · unfold kOr at h
    split at h
    · simp only [Option.bind_eq_some_iff, req_iff, Nat.ble_eq, Option.some.injEq] at h
      obtain ⟨ss, h1, h2, rfl⟩ := h
      rw [decS_ok h1]
      exact or_c _ _ ss h2
    · cases h
  · unfold kNot at h
    split at h
    · cases h; exact not_c _ _ _ _
    · cases h
  · unfold kName at h
    split at h
    · simp only [req_iff, Nat.ble_eq, Option.some.injEq] at h
      obtain ⟨h1, rfl⟩ := h
      exact name4uc _ h1
    · cases h
/-- The reader of the document. -/
def fsR : List Nat := [31, 45, 46, 47, 64, 65, 77, 84, 85, 92, 93, 94, 97, 98, 100, 96, 79, 103]
theorem fsR_ok : fsR.all (fnOk Try.prog LL rtab) = true := by decide +kernel
theorem parse_run {s : ByteArray} {v : AVal} (h : ran (xCall Try.prog LL rtab kn4 10000 fsR 60 false 31 [.str s] [] 1000) = some v) : ACall Try.prog 31 [.str s] [] fun r s => r = v ∧ s = [] := ran_c kn4uok fsR fsR_ok _ _ rfl h
end Go.Rad
/- The plain laws of names that stand for trees. -/
namespace Go.Rad
open Go

def plainN (n : Node) : Bool := decide (n.op ≠ 6)
def plainS (l : List Node) : Bool := l.all plainN && right4 l

theorem pre_get {a b : List Node} (h : a <+: b) (i : Nat) (n : Node) (hi : a[i]? = some n) : b[i]? = some n := by
  obtain ⟨t, rfl⟩ := h
  rw [List.getElem?_append_left (List.getElem?_eq_some_iff.1 hi).1]
  exact hi
theorem shape_name {n : Node} (h : shapeOk n = true) : n.name.size ≤ 32 := by
  have h0 : ByteArray.empty.size = 0 := rfl
  simp only [shapeOk] at h
  split at h
  · simp only [Bool.and_eq_true, Bool.not_eq_true', decide_eq_false_iff_not, Decidable.not_not] at h; rw [h.1.2, h0]; omega
  · split at h
    · simp only [Bool.and_eq_true, Bool.not_eq_true', decide_eq_false_iff_not, Decidable.not_not] at h; rw [h.1.2, h0]; omega
    · split at h
      · simp only [Bool.and_eq_true, Bool.not_eq_true', decide_eq_false_iff_not, Decidable.not_not] at h; rw [h.1.2, h0]; omega
      · split at h
        · simp only [Bool.and_eq_true, Bool.not_eq_true', decide_eq_false_iff_not, Decidable.not_not] at h; rw [h.1.1.1.2, h0]; omega
        · split at h
          · simp only [Bool.and_eq_true, nameOk, decide_eq_true_eq] at h; exact h.1.2.2
          · cases h
theorem rightS_bounds {l : List Node} (h : rightS l = true) : ∀ n ∈ l, n.name.size ≤ maxLen ∧ n.l.length ≤ maxLen := by
  intro n hn
  obtain ⟨_, hall, _, _⟩ := rightS_kids h
  have hs := shape_name (List.all_eq_true.1 hall n hn)
  obtain ⟨i, hi⟩ := List.mem_iff_getElem?.1 hn
  have := (rightS_ok h (fun n hn => by have := shape_name (List.all_eq_true.1 hall n hn); unfold maxLen; omega)).2 i n hi
  unfold maxLen
  omega

theorem shape_map {n : Node} {F : Int → Int} (h : shapeOk n = true) : shapeOk { n with l := n.l.map F } = true := by
  simp only [shapeOk, List.length_map] at h ⊢
  exact h

theorem atF_new {A : List Int} {v : Int} : atF (A ++ [v]) (A.length : Nat) = v := by
  simp [atF, List.getD]
theorem map_atF {A : List Int} {B : List Int} {l : List Int} (h : ∀ k ∈ l, 0 ≤ k ∧ k < (A.length : Int)) : l.map (atF (A ++ B)) = l.map (atF A) :=
  List.map_congr_left fun k hk => atF_app (h k hk).1 (h k hk).2

def okN (n : Node) : Prop := shapeOk n = true ∧ n.op ≠ 6
/-- What a name's tree is: behind what is there, one tree more, of fit nodes. -/
def NmOk (nm : ByteArray → List Node → Out) : Prop := ∀ s out o2 v, (∀ n ∈ out, okN n) → nm s out = (o2, v, 0) → out <+: o2 ∧ (∀ n ∈ o2, okN n) ∧ Kids o2 out.length [v] o2.length

theorem goT_kids {nm : ByteArray → List Node → Out} (hnm : NmOk nm) : ∀ (ns : List Node) (i : Nat) (st st' : List Int) (A : List Int) (out : List Node) (b : Nat) (o2 : List Node) (v : Int),
    stkS ns i st = some st' → A.length = i → (∀ k ∈ st, 0 ≤ k ∧ k < (i : Int)) → Kids out b (st.map (atF A)) out.length → (∀ n ∈ out, okN n) → goT nm ns A out = (o2, v, 0) →
    out <+: o2 ∧ (∀ n ∈ o2, okN n) ∧ ∃ A2, A2.length = i + ns.length ∧ v = A2.getLastD 0 ∧ (∀ k ∈ st', 0 ≤ k ∧ k < ((i + ns.length : Nat) : Int)) ∧ Kids o2 b (st'.map (atF A2)) o2.length
  | [], i, st, st', A, out, b, o2, v, hst, hA, hk, hkid, hok, h => by
    simp only [stkS, Option.some.injEq] at hst
    simp only [goT, Prod.mk.injEq] at h
    obtain ⟨rfl, rfl, _⟩ := h
    subst hst
    exact ⟨List.prefix_rfl, hok, A, by simpa using hA, rfl, by simpa using hk, hkid⟩
  | n :: ns, i, st, st', A, out, b, o2, v, hst, hA, hk, hkid, hok, h => by
    simp only [stkS] at hst
    split at hst
    · rename_i hc
      obtain ⟨hsh, hle, hdr⟩ := hc
      rw [goT] at h
      split at h
      · rename_i he
        rcases hs : stepT nm n A out with ⟨u, w, e⟩
        rw [hs] at h he
        simp only at h he
        subst he
        have e1 : st = st.take (st.length - n.l.length) ++ n.l := by
          conv => lhs; rw [← List.take_append_drop (st.length - n.l.length) st]
          rw [hdr]
        have hk1 : ∀ k ∈ st.take (st.length - n.l.length), 0 ≤ k ∧ k < (A.length : Int) := fun k hk2 => by have := hk k (List.mem_of_mem_take hk2); omega
        -- the state behind this node
        have hnew : out <+: u ∧ (∀ n ∈ u, okN n) ∧ Kids u b ((st.take (st.length - n.l.length)).map (atF A) ++ [w]) u.length := by
          rw [e1, List.map_append] at hkid
          obtain ⟨m, q1, q2⟩ := hkid.split
          unfold stepT at hs
          split at hs
          · rename_i h6
            have hl0 : n.l = [] := by
              simp only [shapeOk, h6] at hsh
              simp only [show ¬ (6 : Int) = 1 by decide, show ¬ (6 : Int) = 2 by decide, show ¬ ((6 : Int) = 3 ∨ (6 : Int) = 4) by decide, show ¬ (6 : Int) = 5 by decide, if_false, if_true, Bool.and_eq_true, decide_eq_true_eq] at hsh
              exact List.eq_nil_of_length_eq_zero hsh.2
            obtain ⟨r1, r3, r2⟩ := hnm _ _ _ _ hok hs
            rw [hl0, List.map_nil] at q2
            cases q2
            exact ⟨r1, r3, (q1.mono (pre_get r1)).append r2⟩
          · rename_i h6
            unfold putS at hs
            split at hs
            · simp at hs
            · simp only [Prod.mk.injEq] at hs
              obtain ⟨rfl, rfl, _⟩ := hs
              have hp : out <+: out ++ [{ n with l := n.l.map (atF A) }] := List.prefix_append _ _
              refine ⟨hp, fun x hx => ?_, ?_⟩
              · rcases List.mem_append.1 hx with hx | hx
                · exact hok x hx
                · simp only [List.mem_singleton] at hx
                  subst hx
                  exact ⟨shape_map hsh, h6⟩
              · refine (q1.mono (pre_get hp)).append ?_
                have hc : Kids (out ++ [{ n with l := n.l.map (atF A) }]) m [((out.length : Nat) : Int)] (out.length + 1) := .cons (n := { n with l := n.l.map (atF A) }) (by simp) (q2.mono (pre_get hp)) .nil
                simpa using hc
        obtain ⟨n1, n2, n3⟩ := hnew
        have e2 : (st.take (st.length - n.l.length) ++ [(i : Int)]).map (atF (A ++ [w])) = (st.take (st.length - n.l.length)).map (atF A) ++ [w] := by
          rw [List.map_append, map_atF hk1, List.map_cons, List.map_nil, ← hA, atF_new]
        obtain ⟨p1, p2, A2, p3, p4, p5, p6⟩ := goT_kids hnm ns (i + 1) _ st' (A ++ [w]) u b o2 v hst (by simp [hA]) (fun k hk2 => by
          rcases List.mem_append.1 hk2 with hk2 | hk2
          · have := hk k (List.mem_of_mem_take hk2); omega
          · simp only [List.mem_singleton] at hk2; omega) (by rw [e2]; exact n3) n2 h
        refine ⟨n1.trans p1, p2, A2, by rw [p3]; simp; omega, p4, fun k hk2 => ?_, p6⟩
        have := p5 k hk2
        simp only [List.length_cons]; omega
      · rename_i he
        simp only [Prod.mk.injEq] at h
        exact absurd h.2.2 he
    · cases hst

theorem goT_tree {nm : ByteArray → List Node → Out} (hnm : NmOk nm) {l : List Node} (hl : rightS l = true) {out o2 : List Node} {v : Int} (hok : ∀ n ∈ out, okN n) (h : goT nm l [] out = (o2, v, 0)) : out <+: o2 ∧ (∀ n ∈ o2, okN n) ∧ Kids o2 out.length [v] o2.length := by
  obtain ⟨hkl, _, h1, h2⟩ := rightS_kids hl
  simp only [rightS, Bool.and_eq_true] at hl
  obtain ⟨_, h3⟩ := hl
  split at h3
  · rename_i st hst
    obtain ⟨p1, p2, A2, p3, p4, p5, p6⟩ := goT_kids hnm l 0 [] st [] out out.length o2 v hst rfl (fun k hk => by simp at hk) (by rw [List.map_nil]; exact .nil) hok h
    have hk := stk_kids l l 0 [] st rfl hst .nil
    rw [Nat.zero_add] at hk
    simp only [decide_eq_true_eq] at h3
    match st, h3, hk, p6 with
    | [k], _, hk, p6 =>
      have e := hk.one.1
      refine ⟨p1, p2, ?_⟩
      rw [List.map_cons, List.map_nil] at p6
      have : atF A2 k = v := by
        rw [p4, e]
        obtain ⟨m, hm⟩ : ∃ m, l.length = m + 1 := ⟨l.length - 1, by omega⟩
        rw [hm, List.getLastD_eq_getLast?, List.getLast?_eq_getElem?, p3, hm]
        simp [atF, List.getD]
      rw [this] at p6
      exact p6
  · cases h3

theorem nameT_ok {ds : List Df} (hds : ∀ d ∈ ds, rightS d.l = true) : ∀ (f : Nat) (op : List ByteArray), NmOk (nameT ds f op) := by
  intro f
  induction f with
  | zero => intro op s out o2 v _ h; simp [nameT] at h
  | succ f ih =>
    intro op s out o2 v hok h
    rw [nameT] at h
    split at h
    · simp at h
    · rename_i d hf
      split at h
      · simp at h
      · exact goT_tree (ih _) (hds d (List.mem_of_find?_eq_some hf)) hok h

theorem goT_plain {nm : ByteArray → List Node → Out} {l : List Node} (hp : ∀ n ∈ l, n.op ≠ 6) (hlen : l.length ≤ 1024) (hk : ∀ (i : Nat) (n : Node), l[i]? = some n → ∀ k ∈ n.l, 0 ≤ k ∧ k < (i : Int)) :
    ∀ (r i : Nat), i + r = l.length → goT nm (l.drop i) (rg i) (l.take i) = (l, (rg l.length).getLastD 0, 0)
  | 0, i, h => by
    have : i = l.length := by omega
    subst this
    simp [goT]
  | r + 1, i, h => by
    have hlt : i < l.length := by omega
    have hx : l[i]? = some l[i] := List.getElem?_eq_getElem hlt
    have hmap : l[i].l.map (atF (rg i)) = l[i].l := by
      conv => rhs; rw [← List.map_id l[i].l]
      refine List.map_congr_left fun k hk2 => ?_
      have := hk i _ hx k hk2
      obtain ⟨m, rfl⟩ : ∃ m : Nat, k = m := ⟨k.toNat, by omega⟩
      have hm : m < i := by omega
      simp [atF, List.getD, List.getElem?_range, hm]
    have hs : stepT nm l[i] (rg i) (l.take i) = (l.take (i + 1), (i : Int), 0) := by
      rw [stepT, if_neg (hp _ (List.getElem_mem hlt)), putS, if_neg (by simp; omega), hmap, take_one hx]
      have e : (l.take i).length = i := by rw [List.length_take]; omega
      rw [e]
    rw [List.drop_eq_getElem_cons hlt, goT, hs]
    simp only [if_true]
    rw [← rg_succ]
    exact goT_plain hp hlen hk r (i + 1) (by omega)

theorem expand_plain {l : List Node} {ds : List Df} (hp : ∀ n ∈ l, n.op ≠ 6) (hr : rightS l = true) (hd : rightD [] ds = true) : expandS l ds = (l, 0) := by
  have hn := fun n hn => (rightS_bounds hr n hn).1
  have ht := rightS_ok hr hn
  obtain ⟨_, _, h1, h2⟩ := rightS_kids hr
  have := goT_plain (nm := nameT ds (ds.length + 1) []) hp h2 (fun i n hi => (ht.2 i n hi).2.2) l.length 0 (by omega)
  simp only [List.drop_zero, List.take_zero] at this
  rw [show rg 0 = [] from rfl] at this
  rw [expandS, if_pos ⟨hr, hd⟩, this]
  simp

theorem expand_ok {l : List Node} {ds : List Df} {x : List Node} (h : expandS l ds = (x, 0)) : rightS l = true ∧ rightD [] ds = true ∧ rightS x = true ∧ ∀ n ∈ x, okN n := by
  rw [expandS] at h
  split at h
  · rename_i hc
    split at h
    · rename_i he
      simp only [Prod.mk.injEq, and_true] at h
      rcases hg : goT (nameT ds (ds.length + 1) []) l [] [] with ⟨o2, v, e⟩
      rw [hg] at he h
      simp only at he h
      subst he h
      obtain ⟨hf1, _⟩ := rightD_facts ds [] hc.2
      obtain ⟨p1, p2, p3⟩ := goT_tree (nameT_ok (fun d hd => (hf1 d hd).2.2) (ds.length + 1) []) hc.1 (by simp) hg
      have hlen := goT_len (nm := nameT ds (ds.length + 1) []) (fun s out h => nameT_len ds _ _ s out h) l [] [] (by simp)
      rw [hg] at hlen
      exact ⟨hc.1, hc.2, kids_rightS p3 (List.all_eq_true.2 fun n hn => (p2 n hn).1) hlen, p2⟩
    · rename_i he
      simp only [Prod.mk.injEq] at h
      exact absurd h.2 he
  · simp at h
theorem expand_no {l : List Node} {ds : List Df} (h : (expandS l ds).2 ≠ 0) : (expandS l ds).1 = [] := by
  rw [expandS] at h ⊢
  split
  · rename_i hc
    rw [if_pos hc] at h
    split
    · rename_i he; rw [if_pos he] at h; exact absurd rfl h
    · rfl
  · rfl

theorem law_plain {l : List Node} {ds : List Df} {x : List Node} (h : expandS l ds = (x, 0)) : plainS x = true ∧ expandS x [] = (x, 0) ∧ expandS x ds = (x, 0) ∧ (plainS l = true → x = l) := by
  obtain ⟨h1, h2, h3, h4⟩ := expand_ok h
  refine ⟨?_, expand_plain (fun n hn => (h4 n hn).2) h3 rfl, expand_plain (fun n hn => (h4 n hn).2) h3 h2, fun hp => ?_⟩
  · simp only [plainS, Bool.and_eq_true, List.all_eq_true]
    exact ⟨fun n hn => decide_eq_true (h4 n hn).2, by rw [← right_eq]; exact h3⟩
  · simp only [plainS, Bool.and_eq_true, List.all_eq_true] at hp
    have := expand_plain (ds := ds) (fun n hn => of_decide_eq_true (hp.1 n hn)) h1 h2
    rw [this] at h
    exact (Prod.mk.inj h).1.symm
end Go.Rad
/- Trees as forests, and as lists of nodes. -/
namespace Go.Rad
open Go

structure Lb where
  op : Int
  s : ISet
  lo : Int
  hi : Int
  name : ByteArray
  deriving DecidableEq, Inhabited
abbrev Lb.node (b : Lb) (l : List Int) : Node := ⟨b.op, b.s, l, b.lo, b.hi, b.name⟩
abbrev Node.lb (n : Node) : Lb := ⟨n.op, n.s, n.lo, n.hi, n.name⟩

/-- Some trees in a row: the first one's root and kids, and the trees behind it. -/
inductive Fo where
  | nil
  | node (b : Lb) (k r : Fo)

namespace Fo
def size : Fo → Nat
  | .nil => 0
  | .node _ k r => k.size + 1 + r.size
def deg : Fo → Nat
  | .nil => 0
  | .node _ _ r => r.deg + 1
def app : Fo → Fo → Fo
  | .nil, g => g
  | .node b k r, g => .node b k (r.app g)
abbrev one (b : Lb) (k : Fo) : Fo := .node b k .nil
def roots : Fo → Nat → List Int
  | .nil, _ => []
  | .node _ k r, i => ((i + k.size : Nat) : Int) :: r.roots (i + k.size + 1)
def lay : Fo → Nat → List Node
  | .nil, _ => []
  | .node b k r, i => k.lay i ++ b.node (k.roots i) :: r.lay (i + k.size + 1)
def labels : Fo → List Lb
  | .nil => []
  | .node b k r => k.labels ++ b :: r.labels

theorem app_nil (f : Fo) : f.app .nil = f := by
  induction f with
  | nil => rfl
  | node b k r _ ih => simp only [app, ih]
theorem app_assoc (f g h : Fo) : (f.app g).app h = f.app (g.app h) := by
  induction f with
  | nil => rfl
  | node b k r _ ih => simp only [app, ih]
theorem size_app (f g : Fo) : (f.app g).size = f.size + g.size := by
  induction f with
  | nil => simp [app, size]
  | node b k r _ ih => simp only [app, size, ih]; omega
theorem deg_app (f g : Fo) : (f.app g).deg = f.deg + g.deg := by
  induction f with
  | nil => simp [app, deg]
  | node b k r _ ih => simp only [app, deg, ih]; omega
theorem roots_app (f g : Fo) (i : Nat) : (f.app g).roots i = f.roots i ++ g.roots (i + f.size) := by
  induction f generalizing i with
  | nil => simp [app, roots, size]
  | node b k r _ ih => simp only [app, roots, ih, size, List.cons_append]; congr 3; omega
theorem lay_app (f g : Fo) (i : Nat) : (f.app g).lay i = f.lay i ++ g.lay (i + f.size) := by
  induction f generalizing i with
  | nil => simp [app, lay, size]
  | node b k r _ ih => simp only [app, lay, ih, size, List.append_assoc, List.cons_append]; congr 4; omega
theorem labels_app (f g : Fo) : (f.app g).labels = f.labels ++ g.labels := by
  induction f with
  | nil => rfl
  | node b k r _ ih => simp only [app, labels, ih, List.append_assoc, List.cons_append]
theorem lay_len (f : Fo) (i : Nat) : (f.lay i).length = f.size := by
  induction f generalizing i with
  | nil => rfl
  | node b k r ih1 ih2 => simp only [lay, List.length_append, List.length_cons, ih1, ih2, size]; omega
theorem roots_len (f : Fo) (i : Nat) : (f.roots i).length = f.deg := by
  induction f generalizing i with
  | nil => rfl
  | node b k r ih1 ih2 => simp only [roots, List.length_cons, ih2, deg]
theorem lay_labels (f : Fo) (i : Nat) : (f.lay i).map Node.lb = f.labels := by
  induction f generalizing i with
  | nil => rfl
  | node b k r ih1 ih2 => simp only [lay, List.map_append, List.map_cons, ih1, ih2, labels]
theorem deg_le (f : Fo) : f.deg ≤ f.size := by
  induction f with
  | nil => exact Nat.le_refl _
  | node b k r _ ih => simp only [deg, size]; omega
theorem roots_one {f : Fo} (h : f.deg = 1) (i : Nat) : f.roots i = [((i + f.size : Nat) : Int) - 1] := by
  match f, h with
  | .node b k .nil, _ => simp only [roots, size]; congr 1; omega
theorem size_pos {f : Fo} (h : f.deg = 1) : 1 ≤ f.size := by have := deg_le f; omega

/-- Where a forest's trees stand within nodes. -/
def Sub (ns : List Node) : Fo → List Int → Prop
  | .nil, ks => ks = []
  | .node b k r, ks => ∃ (i : Nat) (n : Node) (ks' : List Int), ks = (i : Int) :: ks' ∧ ns[i]? = some n ∧ n.lb = b ∧ k.Sub ns n.l ∧ r.Sub ns ks'
theorem Sub.len {ns : List Node} {f : Fo} {ks : List Int} (h : f.Sub ns ks) : ks.length = f.deg := by
  induction f generalizing ks with
  | nil => simp only [Sub] at h; subst h; rfl
  | node b k r _ ih => obtain ⟨i, n, ks', rfl, _, _, _, h⟩ := h; simp only [List.length_cons, deg, ih h]
theorem Sub.mono {ns ns' : List Node} (hm : ∀ (i : Nat) (n : Node), ns[i]? = some n → ns'[i]? = some n) {f : Fo} {ks : List Int} (h : f.Sub ns ks) : f.Sub ns' ks := by
  induction f generalizing ks with
  | nil => exact h
  | node b k r ih1 ih2 =>
    obtain ⟨i, n, ks', e, h1, h2, h3, h4⟩ := h
    exact ⟨i, n, ks', e, hm _ _ h1, h2, ih1 h3, ih2 h4⟩

theorem of_kids {ns : List Node} {lo hi : Nat} {ks : List Int} (h : Kids ns lo ks hi) : ∃ f : Fo, f.Sub ns ks ∧ ks = f.roots lo ∧ hi = lo + f.size ∧ ns.take lo ++ f.lay lo = ns.take hi := by
  induction h with
  | nil => exact ⟨.nil, rfl, rfl, rfl, by simp [lay]⟩
  | @cons lo k hi n ks h1 h2 h3 ih1 ih2 =>
    obtain ⟨f, a1, a2, a3, a4⟩ := ih1
    obtain ⟨g, b1, b2, b3, b4⟩ := ih2
    refine ⟨.node n.lb f g, ⟨k, n, ks, rfl, h1, rfl, a1, b1⟩, ?_, ?_, ?_⟩
    · simp only [roots, ← a3]; rw [← b2]
    · simp only [size]; omega
    · simp only [lay, ← a3]
      rw [← List.append_assoc, a4, ← b4, take_one h1, List.append_assoc, List.cons_append, List.nil_append, show n.lb.node (f.roots lo) = n by rw [← a2]]
theorem to_kids {ns : List Node} : ∀ (f : Fo) (pre : List Node), pre ++ f.lay pre.length <+: ns → Kids ns pre.length (f.roots pre.length) (pre.length + f.size) ∧ f.Sub ns (f.roots pre.length)
  | .nil, pre, _ => ⟨.nil, rfl⟩
  | .node b k r, pre, h => by
    simp only [lay, ← List.append_assoc] at h
    have h' : pre ++ k.lay pre.length ++ [b.node (k.roots pre.length)] ++ r.lay (pre.length + k.size + 1) <+: ns := by simpa using h
    have h1 : pre ++ k.lay pre.length <+: ns := (List.prefix_append _ _).trans h
    obtain ⟨a1, a2⟩ := to_kids k pre h1
    have e : (pre ++ k.lay pre.length ++ [b.node (k.roots pre.length)]).length = pre.length + k.size + 1 := by simp [lay_len]; omega
    obtain ⟨b1, b2⟩ := to_kids r (pre ++ k.lay pre.length ++ [b.node (k.roots pre.length)]) (by rw [e]; exact h')
    rw [e] at b1 b2
    have hn : ns[pre.length + k.size]? = some (b.node (k.roots pre.length)) := by
      refine pre_get ((List.prefix_append _ _).trans h') _ _ ?_
      rw [List.getElem?_append_right (by simp [lay_len])]
      simp [lay_len]
    refine ⟨?_, _, _, _, rfl, hn, rfl, a2, b2⟩
    simp only [roots, size]
    rw [show pre.length + (k.size + 1 + r.size) = pre.length + k.size + 1 + r.size by omega]
    exact .cons hn a1 b1

theorem of_right {l : List Node} (h : rightS l = true) : ∃ b k, l = (one b k).lay 0 ∧ (one b k).Sub l [(l.length : Int) - 1] ∧ (one b k).size = l.length := by
  obtain ⟨h1, _, h2, _⟩ := rightS_kids h
  obtain ⟨f, a1, a2, a3, a4⟩ := of_kids h1
  have hd := a1.len
  match f, hd with
  | .node b k .nil, _ =>
    refine ⟨b, k, ?_, a1, by show (Fo.node b k .nil).size = _; omega⟩
    simpa using a4.symm
theorem to_right {f : Fo} (hd : f.deg = 1) (hs : (f.lay 0).all shapeOk = true) (h1 : f.size ≤ 1024) : rightS (f.lay 0) = true := by
  obtain ⟨a, _⟩ := to_kids f [] (List.prefix_rfl)
  simp only [List.length_nil, roots_one hd, Nat.zero_add] at a
  exact kids_rightS (by simpa [lay_len] using a) hs (by rw [lay_len]; exact h1)
theorem sub_lay {f : Fo} (hd : f.deg = 1) : f.Sub (f.lay 0) [(f.size : Int) - 1] := by
  obtain ⟨_, a⟩ := to_kids f [] (List.prefix_rfl)
  simpa [roots_one hd] using a

/-- Whether a label may stand over so many kids. -/
def shapeL (b : Lb) (d : Nat) : Bool := shapeOk (b.node (List.replicate d 0))
theorem shape_len {b : Lb} {l : List Int} : shapeOk (b.node l) = shapeL b l.length := by
  simp only [shapeL, shapeOk, List.length_replicate]
/-- All labels, with what stands below them. -/
def all (P : Lb → Fo → Bool) : Fo → Bool
  | .nil => true
  | .node b k r => P b k && k.all P && r.all P
theorem all_app (P : Lb → Fo → Bool) (f g : Fo) : (f.app g).all P = (f.all P && g.all P) := by
  induction f with
  | nil => simp [app, all]
  | node b k r _ ih => simp only [app, all, ih, Bool.and_assoc]
theorem all_mono {P Q : Lb → Fo → Bool} (h : ∀ b k, P b k = true → Q b k = true) {f : Fo} (hf : f.all P = true) : f.all Q = true := by
  induction f with
  | nil => rfl
  | node b k r ih1 ih2 =>
    simp only [all, Bool.and_eq_true] at hf ⊢
    exact ⟨⟨h _ _ hf.1.1, ih1 hf.1.2⟩, ih2 hf.2⟩
theorem all_and {P Q : Lb → Fo → Bool} (f : Fo) : f.all (fun b k => P b k && Q b k) = (f.all P && f.all Q) := by
  induction f with
  | nil => rfl
  | node b k r ih1 ih2 => simp only [all, ih1, ih2]; cases P b k <;> cases Q b k <;> cases k.all P <;> cases k.all Q <;> cases r.all P <;> cases r.all Q <;> rfl
abbrev shapeF (f : Fo) : Bool := f.all fun b k => shapeL b k.deg
theorem lay_shape (f : Fo) (i : Nat) : (f.lay i).all shapeOk = f.shapeF := by
  induction f generalizing i with
  | nil => rfl
  | node b k r ih1 ih2 =>
    simp only [lay, List.all_append, List.all_cons, ih1, ih2, shape_len, roots_len, shapeF, all]
    cases shapeL b k.deg <;> cases k.all (fun b k => shapeL b k.deg) <;> rfl
/-- What holds of all nodes, by what stands below them. -/
theorem lay_all {ns : List Node} {P : Lb → Fo → Bool} {Q : Node → Bool} (hPQ : ∀ (n : Node) (k : Fo), k.Sub ns n.l → Q n = P n.lb k) : ∀ (f : Fo) (pre : List Node), pre ++ f.lay pre.length <+: ns → (f.lay pre.length).all Q = f.all P
  | .nil, _, _ => rfl
  | .node b k r, pre, h => by
    simp only [lay, ← List.append_assoc] at h
    have h' : pre ++ k.lay pre.length ++ [b.node (k.roots pre.length)] ++ r.lay (pre.length + k.size + 1) <+: ns := by simpa using h
    have h1 : pre ++ k.lay pre.length <+: ns := (List.prefix_append _ _).trans h
    obtain ⟨_, a2⟩ := to_kids k pre h1
    have e : (pre ++ k.lay pre.length ++ [b.node (k.roots pre.length)]).length = pre.length + k.size + 1 := by simp [lay_len]; omega
    have b1 := lay_all hPQ r (pre ++ k.lay pre.length ++ [b.node (k.roots pre.length)]) (by rw [e]; exact h')
    rw [e] at b1
    have c1 := lay_all hPQ k pre h1
    simp only [lay, List.all_append, List.all_cons, c1, b1, all, hPQ (b.node (k.roots pre.length)) k a2]
    cases P b k <;> cases k.all P <;> rfl
theorem lay_all0 {P : Lb → Fo → Bool} {Q : Node → Bool} {f : Fo} (hPQ : ∀ (n : Node) (k : Fo), k.Sub (f.lay 0) n.l → Q n = P n.lb k) : (f.lay 0).all Q = f.all P :=
  lay_all hPQ f [] List.prefix_rfl
/-- Nodes are a tree: by a forest of one root. -/
theorem right_iff {l : List Node} : rightS l = true ↔ ∃ f : Fo, f.deg = 1 ∧ l = f.lay 0 ∧ f.shapeF = true ∧ f.size ≤ 1024 := by
  constructor
  · intro h
    obtain ⟨_, h2, h3, h4⟩ := rightS_kids h
    obtain ⟨b, k, h1, _, h5⟩ := of_right h
    exact ⟨one b k, rfl, h1, by rw [← lay_shape _ 0, ← h1]; exact h2, by rw [h5]; exact h4⟩
  · rintro ⟨f, h1, rfl, h2, h3⟩
    exact to_right h1 (by rw [lay_shape]; exact h2) h3
end Fo
end Go.Rad
/- Plans: what the code and the document write out, and that both are one forest. -/
namespace Go.Rad
open Go

/-! Without the refs of names. -/
theorem goT_ref {nm : ByteArray → List Node → Out} (hnm : ∀ s out, (nm s out).2.2 ≠ 0) : ∀ (l : List Node) (A : List Int) (out : List Node), (goT nm l A out).2.2 = 0 → ∀ n ∈ l, n.op ≠ 6
  | [], _, _, _, n, hn => by simp at hn
  | m :: l, A, out, h, n, hn => by
    rw [goT] at h
    split at h
    · rename_i he
      rcases List.mem_cons.1 hn with rfl | hn
      · intro h6
        rw [stepT, if_pos h6] at he
        exact hnm _ _ he
      · exact goT_ref hnm l _ _ h n hn
    · rename_i he; exact absurd h he
theorem nameT_none (f : Nat) (op : List ByteArray) (s : ByteArray) (out : List Node) : (nameT [] f op s out).2.2 ≠ 0 := by
  cases f with
  | zero => simp [nameT]
  | succ f => simp [nameT, dfind]
theorem plain_iff (l : List Node) : decide ((expandS l []).2 = 0) = plainS l := by
  rw [Bool.eq_iff_iff, decide_eq_true_eq]
  constructor
  · intro h
    have hx : expandS l [] = ((expandS l []).1, 0) := Prod.ext rfl h
    obtain ⟨h1, _, _, _⟩ := expand_ok hx
    simp only [plainS, Bool.and_eq_true, List.all_eq_true]
    refine ⟨fun n hn => decide_eq_true ?_, by rw [← right_eq]; exact h1⟩
    rw [expandS, if_pos ⟨h1, rfl⟩] at h
    split at h
    · rename_i he
      exact goT_ref (nameT_none _ _) l [] [] he n hn
    · rename_i he; exact absurd h he
  · intro h
    simp only [plainS, Bool.and_eq_true, List.all_eq_true] at h
    rw [expand_plain (fun n hn => of_decide_eq_true (h.1 n hn)) (by rw [right_eq]; exact h.2) rfl]

/-! What a plan is, of forests. -/
def opL (op : Int) : Lb := ⟨op, ISet.none, 0, 0, ByteArray.empty⟩
def repL (lo hi : Int) : Lb := ⟨5, ISet.none, lo, hi, ByteArray.empty⟩
def Lb.bare (b : Lb) : Lb := ⟨b.op, b.s, 0, 0, ByteArray.empty⟩
abbrev opNd (op : Int) (l : List Int) : Node := ⟨op, ISet.none, l, 0, 0, ByteArray.empty⟩
abbrev repNd (lo hi k : Int) : Node := ⟨5, ISet.none, [k], lo, hi, ByteArray.empty⟩
namespace Fo
def starT (p : Fo) : Fo := one (repL 0 (-1)) p
def restT (p : Fo) : Nat → Fo
  | 0 => .nil
  | m + 1 => one (opL 4) ((one (opL 1) .nil).app (if m = 0 then p else one (opL 3) (p.app (restT p m))))
def copies (p : Fo) : Nat → Fo
  | 0 => .nil
  | n + 1 => p.app (copies p n)
def rowOf (p : Fo) (lo hi : Int) : Fo := (p.copies lo.toNat).app (if hi = -1 then p.starT else if lo < hi then p.restT (hi - lo).toNat else .nil)
def catT (f : Fo) : Fo := if f.deg = 1 then f else one (opL 3) f
def rowT (p : Fo) (lo hi : Int) : Fo := (rowOf p lo hi).catT
def isBytes : Fo → Bool
  | .node b _ _ => decide (b.op = 2)
  | .nil => false
def repT (most lo hi : Int) (bytes : Bool) (p : Fo) : Fo :=
  if bytes = false then p.rowT lo hi
  else if most < hi then (if 0 < lo then one (repL lo hi) p else one (opL 4) ((one (opL 1) .nil).app (one (repL 1 hi) p)))
  else if hi = -1 ∧ max most 1 < lo then one (opL 3) ((one (repL lo lo) p).app p.starT)
  else p.rowT lo hi
def planT (most : Int) : Fo → Fo
  | .nil => .nil
  | .node b k r => (if b.op = 5 then repT most b.lo b.hi k.isBytes (k.planT most) else one b.bare (k.planT most)).app (r.planT most)
theorem catT_deg (f : Fo) : f.catT.deg = 1 := by
  unfold catT; split
  · assumption
  · rfl
theorem repT_deg (most lo hi : Int) (bytes : Bool) (p : Fo) : (repT most lo hi bytes p).deg = 1 := by
  unfold repT
  split
  · exact catT_deg _
  · split
    · split <;> rfl
    · split
      · rfl
      · exact catT_deg _
theorem planT_deg (most : Int) (f : Fo) : (f.planT most).deg = f.deg := by
  induction f with
  | nil => rfl
  | node b k r _ ih =>
    simp only [planT, deg_app, ih, deg]
    split
    · rw [repT_deg]; omega
    · simp only [deg]; omega
theorem rest_deg (p : Fo) (m : Nat) : (restT p (m + 1)).deg = 1 := rfl
end Fo
open Fo

/-! The code's way. -/
abbrev PO := List Node × Int
abbrev pushP (n : Node) (out : List Node) : PO := (out ++ [n], out.length)
def restM (pl : List Node → PO) : Nat → List Node → PO
  | 0, out => (out, 0)
  | m + 1, out =>
    if 1024 ≤ out.length then pushP (opNd 1 []) out
    else if m = 0 then pushP (opNd 4 [out.length, (pl (out ++ [opNd 1 []])).2]) (pl (out ++ [opNd 1 []])).1
    else pushP (opNd 4 [out.length, (restM pl m (pl (out ++ [opNd 1 []])).1).1.length]) ((restM pl m (pl (out ++ [opNd 1 []])).1).1 ++ [opNd 3 [(pl (out ++ [opNd 1 []])).2, (restM pl m (pl (out ++ [opNd 1 []])).1).2]])
def rowL (pl : List Node → PO) : Nat → List Node → List Int → (List Node × List Int) × Bool
  | 0, out, row => ((out, row), true)
  | n + 1, out, row => if 1024 < out.length then ((out, row), false) else rowL pl n (pl out).1 (row ++ [(pl out).2])
def rowE (pl : List Node → PO) (lo hi : Int) (a : List Node × List Int) : List Node × List Int :=
  if hi = -1 then ((pl a.1).1 ++ [repNd 0 (-1) (pl a.1).2], a.2 ++ [((pl a.1).1.length : Int)])
  else if lo < hi then ((restM pl (hi - lo).toNat a.1).1, a.2 ++ [(restM pl (hi - lo).toNat a.1).2])
  else a
def catM (b : List Node × List Int) : PO := if b.2.length = 1 then (b.1, b.2.headD 0) else pushP (opNd 3 b.2) b.1
def rowM (pl : List Node → PO) (lo hi : Int) (out : List Node) : PO :=
  if (rowL pl lo.toNat out []).2 = false then ((rowL pl lo.toNat out []).1.1, 0) else catM (rowE pl lo hi (rowL pl lo.toNat out []).1)
def cntM (pl : List Node → PO) (lo hi : Int) (out : List Node) : PO :=
  if 0 < lo then pushP (repNd lo hi (pl out).2) (pl out).1
  else pushP (opNd 4 [out.length, (pl (out ++ [opNd 1 []])).1.length]) ((pl (out ++ [opNd 1 []])).1 ++ [repNd 1 hi (pl (out ++ [opNd 1 []])).2])
def endM (pl : List Node → PO) (lo : Int) (out : List Node) : PO :=
  pushP (opNd 3 [(pl out).1.length, (pl ((pl out).1 ++ [repNd lo lo (pl out).2])).1.length]) ((pl ((pl out).1 ++ [repNd lo lo (pl out).2])).1 ++ [repNd 0 (-1) (pl ((pl out).1 ++ [repNd lo lo (pl out).2])).2])
def repM (pl : List Node → PO) (most : Int) (bytes : Bool) (lo hi : Int) (out : List Node) : PO :=
  if bytes = false then rowM pl lo hi out
  else if most < hi then cntM pl lo hi out
  else if hi = -1 ∧ max most 1 < lo then endM pl lo out
  else rowM pl lo hi out
def kidsM (pl : Int → List Node → PO) : List Int → List Node → List Int → List Node × List Int
  | [], out, ks => (out, ks)
  | k :: l, out, ks => kidsM pl l (pl k out).1 (ks ++ [(pl k out).2])
def kid0 (n : Node) : Int := n.l.headD 0
def nAt (ns : List Node) (k : Int) : Node := ns.getD k.toNat default
def planM (ns : List Node) (most : Int) : Nat → Int → List Node → PO
  | 0, _, out => (out, 0)
  | f + 1, k, out =>
    if 1024 < out.length then (out, 0)
    else if (nAt ns k).op = 5 then repM (planM ns most f (kid0 (nAt ns k))) most (decide ((nAt ns (kid0 (nAt ns k))).op = 2)) (nAt ns k).lo (nAt ns k).hi out
    else pushP ⟨(nAt ns k).op, (nAt ns k).s, (kidsM (planM ns most f) (nAt ns k).l out []).2, 0, 0, ByteArray.empty⟩ (kidsM (planM ns most f) (nAt ns k).l out []).1
def planS (ns : List Node) (most : Int) : List Node × Int :=
  if most < 1 ∨ 4096 < most ∨ plainS ns = false then ([], 1)
  else if 1024 < (planM ns most ns.length ((ns.length : Int) - 1) []).1.length then ([], 3)
  else ((planM ns most ns.length ((ns.length : Int) - 1) []).1, 0)

/-- What puts a forest, as far as there is room. -/
def FOk (s : List Node → List Node × List Int) (f : Fo) : Prop := ∀ out, (out.length + f.size ≤ 1024 → s out = (out ++ f.lay out.length, f.roots out.length)) ∧ (1024 < out.length + f.size → 1024 < (s out).1.length)
def seqS (s t : List Node → List Node × List Int) (out : List Node) : List Node × List Int := ((t (s out).1).1, (s out).2 ++ (t (s out).1).2)
def wrapS (b : Lb) (s : List Node → List Node × List Int) (out : List Node) : List Node × List Int := ((s out).1 ++ [b.node (s out).2], [((s out).1.length : Int)])
abbrev nilS (out : List Node) : List Node × List Int := (out, [])
abbrev sg (pl : List Node → PO) (out : List Node) : List Node × List Int := ((pl out).1, [(pl out).2])
theorem FOk.nil : FOk nilS .nil := fun out => ⟨fun _ => by simp [lay, roots], fun h => by simpa [size] using h⟩
theorem FOk.seq {s t : List Node → List Node × List Int} {f g : Fo} (hs : FOk s f) (ht : FOk t g) : FOk (seqS s t) (f.app g) := by
  intro out
  rw [size_app]
  by_cases h1 : out.length + f.size ≤ 1024
  · have e := (hs out).1 h1
    have el : (out ++ f.lay out.length).length = out.length + f.size := by simp [lay_len]
    obtain ⟨t1, t2⟩ := ht (out ++ f.lay out.length)
    rw [el] at t1 t2
    refine ⟨fun h => ?_, fun h => ?_⟩
    · simp only [seqS, e]
      rw [t1 (by omega), lay_app, roots_app]
      simp
    · simp only [seqS, e]
      exact t2 (by omega)
  · have e := (hs out).2 (by omega)
    refine ⟨fun h => by omega, fun _ => ?_⟩
    exact (ht (s out).1).2 (by omega)
theorem FOk.wrap {s : List Node → List Node × List Int} {f : Fo} (b : Lb) (hs : FOk s f) : FOk (wrapS b s) (one b f) := by
  intro out
  simp only [size, Nat.add_zero]
  by_cases h1 : out.length + f.size ≤ 1024
  · have e := (hs out).1 h1
    refine ⟨fun h => ?_, fun h => ?_⟩
    · simp only [wrapS, e, lay, roots]
      simp [lay_len]
    · simp only [wrapS, e]
      simp [lay_len]; omega
  · have e := (hs out).2 (by omega)
    refine ⟨fun h => by omega, fun _ => ?_⟩
    simp only [wrapS, List.length_append]; omega
theorem FOk.guard {s s' : List Node → List Node × List Int} {f : Fo} (h : ∀ out, s' out = s out ∨ (1024 < (s' out).1.length ∧ 1024 < out.length + f.size)) (hs : FOk s f) : FOk s' f := by
  intro out
  rcases h out with e | ⟨e1, e2⟩
  · rw [e]; exact hs out
  · exact ⟨fun h => by omega, fun _ => e1⟩
theorem FOk.eq {s s' : List Node → List Node × List Int} {f : Fo} (h : ∀ out, s' out = s out) (hs : FOk s f) : FOk s' f := hs.guard fun out => .inl (h out)

theorem rest_ok {pl : List Node → PO} {p : Fo} (hp : FOk (sg pl) p) : ∀ m, FOk (sg (restM pl (m + 1))) (restT p (m + 1))
  | 0 => by
    refine FOk.guard (s := wrapS (opL 4) (seqS (wrapS (opL 1) nilS) (sg pl))) (fun out => ?_) ?_
    · by_cases h : 1024 ≤ out.length
      · refine .inr ⟨?_, ?_⟩
        · simp only [sg, restM, if_pos h, pushP, List.length_append, List.length_cons, List.length_nil]; omega
        · simp only [restT, size, size_app]; omega
      · exact .inl (by simp only [sg, restM, if_neg h, if_true]; rfl)
    · exact ((FOk.nil.wrap _).seq hp).wrap _
  | m + 1 => by
    refine FOk.guard (s := wrapS (opL 4) (seqS (wrapS (opL 1) nilS) (wrapS (opL 3) (seqS (sg pl) (sg (restM pl (m + 1))))))) (fun out => ?_) ?_
    · by_cases h : 1024 ≤ out.length
      · refine .inr ⟨?_, ?_⟩
        · simp only [sg, restM, if_pos h, pushP, List.length_append, List.length_cons, List.length_nil]; omega
        · simp only [restT, size, size_app]; omega
      · refine .inl ?_
        have hm : ¬ m + 1 = 0 := by omega
        simp only [sg]
        rw [restM, if_neg h, if_neg hm]
        rfl
    · exact ((FOk.nil.wrap _).seq ((hp.seq (rest_ok hp m)).wrap _)).wrap _
theorem rowL_ok {pl : List Node → PO} {p : Fo} (hp : FOk (sg pl) p) : ∀ (n : Nat) (out : List Node) (row : List Int), (out.length + (copies p n).size ≤ 1024 → rowL pl n out row = ((out ++ (copies p n).lay out.length, row ++ (copies p n).roots out.length), true)) ∧ (1024 < out.length + (copies p n).size → 1024 < (rowL pl n out row).1.1.length)
  | 0, out, row => by simp [rowL, copies, lay, roots, size]
  | n + 1, out, row => by
    rw [rowL]
    split
    · rename_i h
      exact ⟨fun h2 => by omega, fun _ => h⟩
    · rename_i h
      obtain ⟨a1, a2⟩ := hp out
      obtain ⟨b1, b2⟩ := rowL_ok hp n (pl out).1 (row ++ [(pl out).2])
      simp only [copies, size_app]
      by_cases h1 : out.length + p.size ≤ 1024
      · have e := a1 h1
        simp only [sg, Prod.mk.injEq] at e
        rw [e.1] at b1 b2 ⊢
        have el : (out ++ p.lay out.length).length = out.length + p.size := by simp [lay_len]
        rw [el] at b1 b2
        refine ⟨fun h2 => ?_, fun h2 => b2 (by omega)⟩
        rw [b1 (by omega), lay_app, roots_app, e.2]
        simp
      · have e := a2 (by omega)
        exact ⟨fun h2 => by omega, fun _ => b2 (by simp only [sg] at e; omega)⟩
theorem cat_ok {s : List Node → List Node × List Int} {f : Fo} (hs : FOk s f) : FOk (sg fun out => catM (s out)) f.catT := by
  intro out
  by_cases h1 : out.length + f.size ≤ 1024
  · have e := (hs out).1 h1
    unfold catT
    split
    · rename_i hd
      simp only [sg, catM, e, roots_len, hd, if_true]
      refine ⟨fun _ => ?_, fun h => by omega⟩
      rw [roots_one hd]; rfl
    · rename_i hd
      simp only [sg, catM, e, roots_len, hd, if_false]
      have := (hs.wrap (opL 3)) out
      simp only [wrapS, e] at this
      exact this
  · have e := (hs out).2 (by omega)
    refine ⟨fun h => ?_, fun _ => ?_⟩
    · unfold catT at h
      split at h
      · omega
      · simp only [size] at h; omega
    · simp only [sg, catM]
      split
      · exact e
      · simp only [pushP, List.length_append]; omega
theorem row_ok {pl : List Node → PO} {p : Fo} (hp : FOk (sg pl) p) (lo hi : Int) : FOk (sg (rowM pl lo hi)) (p.rowT lo hi) := by
  have hL : FOk (fun out => (rowL pl lo.toNat out []).1) (copies p lo.toNat) := fun out => by
    obtain ⟨a, b⟩ := rowL_ok hp lo.toNat out []
    exact ⟨fun h => by show (rowL pl lo.toNat out []).1 = _; rw [a h]; simp, b⟩
  have hE : FOk (fun out => rowE pl lo hi (rowL pl lo.toNat out []).1) (rowOf p lo hi) := by
    unfold rowOf
    by_cases h1 : hi = -1
    · rw [if_pos h1]
      refine (hL.seq (hp.wrap (repL 0 (-1)))).eq fun out => ?_
      simp only [rowE, if_pos h1]; rfl
    · by_cases h2 : lo < hi
      · rw [if_neg h1, if_pos h2]
        obtain ⟨m, hm⟩ : ∃ m, (hi - lo).toNat = m + 1 := ⟨(hi - lo).toNat - 1, by omega⟩
        rw [hm]
        refine (hL.seq (rest_ok hp m)).eq fun out => ?_
        simp only [rowE, if_neg h1, if_pos h2, hm]; rfl
      · rw [if_neg h1, if_neg h2, app_nil]
        refine hL.eq fun out => ?_
        simp only [rowE, if_neg h1, if_neg h2]
  refine (cat_ok hE).guard fun out => ?_
  simp only [sg, rowM]
  by_cases h : (rowL pl lo.toNat out []).2 = false
  · refine .inr ?_
    rw [if_pos h]
    obtain ⟨a, b⟩ := rowL_ok hp lo.toNat out []
    have hov : 1024 < out.length + (copies p lo.toNat).size := by
      refine Nat.lt_of_not_le fun hle => ?_
      rw [a hle] at h; cases h
    refine ⟨b hov, ?_⟩
    have : (copies p lo.toNat).size ≤ (p.rowT lo hi).size := by
      unfold rowT
      have h3 : (copies p lo.toNat).size ≤ (rowOf p lo hi).size := by simp only [rowOf, size_app]; omega
      unfold catT
      split
      · exact h3
      · simp only [size]; omega
    omega
  · rw [if_neg h]; exact .inl rfl
theorem rep_ok {pl : List Node → PO} {p : Fo} (hp : FOk (sg pl) p) (most : Int) (bytes : Bool) (lo hi : Int) : FOk (sg (repM pl most bytes lo hi)) (repT most lo hi bytes p) := by
  unfold repT
  by_cases h1 : bytes = false
  · rw [if_pos h1]; exact (row_ok hp lo hi).eq fun out => by simp only [sg, repM, if_pos h1]
  · rw [if_neg h1]
    by_cases h2 : most < hi
    · rw [if_pos h2]
      by_cases h3 : 0 < lo
      · rw [if_pos h3]
        exact (hp.wrap (repL lo hi)).eq fun out => by simp only [sg, repM, if_neg h1, if_pos h2, cntM, if_pos h3]; rfl
      · rw [if_neg h3]
        exact (((FOk.nil.wrap (opL 1)).seq (hp.wrap (repL 1 hi))).wrap (opL 4)).eq fun out => by simp only [sg, repM, if_neg h1, if_pos h2, cntM, if_neg h3]; rfl
    · rw [if_neg h2]
      by_cases h3 : hi = -1 ∧ max most 1 < lo
      · rw [if_pos h3]
        exact (((hp.wrap (repL lo lo)).seq (hp.wrap (repL 0 (-1)))).wrap (opL 3)).eq fun out => by simp only [sg, repM, if_neg h1, if_neg h2, if_pos h3, endM]; rfl
      · rw [if_neg h3]
        exact (row_ok hp lo hi).eq fun out => by simp only [sg, repM, if_neg h1, if_neg h2, if_neg h3]
theorem nAt_get {ns : List Node} {i : Nat} {n : Node} (h : ns[i]? = some n) : nAt ns (i : Int) = n := by simp [nAt, List.getD, h]
theorem isBytes_sub {ns : List Node} {k : Fo} {n : Node} (h : k.Sub ns n.l) (hd : k.deg = 1) : decide ((nAt ns (kid0 n)).op = 2) = k.isBytes := by
  match k, hd with
  | .node b k1 .nil, _ =>
    obtain ⟨i, m, ks, e, h1, h2, _, _⟩ := h
    simp only [kid0, e, List.headD_cons, nAt_get h1, isBytes, ← h2]
/-- A repetition has one kid. -/
def repOne (f : Fo) : Bool := f.all fun b k => decide (b.op = 5 → k.deg = 1)
theorem plan_ok {ns : List Node} (most : Int) : ∀ (f : Fo) (ks : List Int) (fuel : Nat), f.Sub ns ks → f.size ≤ fuel → repOne f = true →
    (∀ (k : Int), ks = [k] → FOk (sg (planM ns most fuel k)) (f.planT most)) ∧ (∀ row, FOk (fun out => ((kidsM (planM ns most fuel) ks out row).1, ((kidsM (planM ns most fuel) ks out row).2.drop row.length))) (f.planT most) ∧ ∀ out, (kidsM (planM ns most fuel) ks out row).2 = row ++ (kidsM (planM ns most fuel) ks out row).2.drop row.length)
  | .nil, ks, fuel, hs, _, _ => by
    simp only [Fo.Sub] at hs
    subst hs
    refine ⟨fun k h => by simp at h, fun row => ⟨?_, fun out => by simp [kidsM]⟩⟩
    exact FOk.nil.eq fun out => by simp [kidsM]
  | .node b kf r, ks, fuel, hs, hf, hr => by
    obtain ⟨i, n, ks', rfl, h1, h2, h3, h4⟩ := hs
    simp only [repOne, all, Bool.and_eq_true, decide_eq_true_eq] at hr
    simp only [size] at hf
    obtain ⟨fu, rfl⟩ : ∃ fu, fuel = fu + 1 := ⟨fuel - 1, by omega⟩
    obtain ⟨a1, a2⟩ := plan_ok most kf n.l fu h3 (by omega) hr.1.2
    obtain ⟨b1, b2⟩ := plan_ok most r ks' (fu + 1) h4 (by omega) hr.2
    have hone : FOk (sg (planM ns most (fu + 1) i)) (if b.op = 5 then repT most b.lo b.hi kf.isBytes (kf.planT most) else one b.bare (kf.planT most)) := by
      have hb : b.op = n.op ∧ b.lo = n.lo ∧ b.hi = n.hi ∧ b.s = n.s := by rw [← h2]; exact ⟨rfl, rfl, rfl, rfl⟩
      by_cases h5 : b.op = 5
      · have hd := hr.1.1 h5
        have hl := h3.len
        rw [hd] at hl
        have hkid : n.l = [kid0 n] := by
          match hn : n.l, hl with
          | [x], _ => simp [kid0, hn]
        rw [if_pos h5]
        refine (rep_ok (a1 _ hkid) most kf.isBytes b.lo b.hi).guard fun out => ?_
        simp only [sg, planM, nAt_get h1]
        by_cases ho : 1024 < out.length
        · rw [if_pos ho]
          exact .inr ⟨ho, by omega⟩
        · rw [if_neg ho, if_pos (by rw [← hb.1]; exact h5), isBytes_sub h3 hd, hb.2.1, hb.2.2.1]
          exact .inl rfl
      · rw [if_neg h5]
        obtain ⟨c1, c2⟩ := a2 []
        refine (c1.wrap b.bare).guard fun out => ?_
        simp only [sg, planM, nAt_get h1]
        by_cases ho : 1024 < out.length
        · rw [if_pos ho]
          exact .inr ⟨ho, by omega⟩
        · rw [if_neg ho, if_neg (by rw [← hb.1]; exact h5)]
          refine .inl ?_
          simp only [wrapS, pushP, Lb.bare, hb.1, hb.2.2.2, List.length_nil, List.drop_zero]
    refine ⟨fun k hk => ?_, fun row => ?_⟩
    · simp only [List.cons.injEq] at hk
      obtain ⟨rfl, rfl⟩ := hk
      have : r = .nil := by
        match r, h4 with
        | .nil, _ => rfl
        | .node _ _ _, h4 => obtain ⟨_, _, _, e, _⟩ := h4; simp at e
      subst this
      simp only [planT, app_nil]
      exact hone
    · have key : ∀ out, kidsM (planM ns most (fu + 1)) ((i : Int) :: ks') out row = kidsM (planM ns most (fu + 1)) ks' (planM ns most (fu + 1) i out).1 (row ++ [(planM ns most (fu + 1) i out).2]) := fun out => rfl
      have hl1 : ∀ x : Int, (row ++ [x]).length = row.length + 1 := fun x => by simp
      have hdrop : ∀ out, (kidsM (planM ns most (fu + 1)) ((i : Int) :: ks') out row).2.drop row.length = (planM ns most (fu + 1) i out).2 :: (kidsM (planM ns most (fu + 1)) ks' (planM ns most (fu + 1) i out).1 (row ++ [(planM ns most (fu + 1) i out).2])).2.drop (row.length + 1) := by
        intro out
        rw [key]
        have := (b2 (row ++ [(planM ns most (fu + 1) i out).2])).2 (planM ns most (fu + 1) i out).1
        rw [hl1] at this
        conv => lhs; rw [this]
        simp
      refine ⟨?_, fun out => ?_⟩
      · simp only [planT]
        intro out
        have hx := (b2 (row ++ [(planM ns most (fu + 1) i out).2])).1
        rw [hl1] at hx
        have := (hone.seq hx) out
        simp only [seqS, sg, List.cons_append, List.nil_append] at this
        refine ⟨fun h => ?_, fun h => ?_⟩
        · simp only [hdrop]; rw [key]; exact this.1 h
        · simp only [key]; exact this.2 h
      · rw [hdrop, key]
        have := (b2 (row ++ [(planM ns most (fu + 1) i out).2])).2 (planM ns most (fu + 1) i out).1
        rw [hl1] at this
        conv => lhs; rw [this]
        simp
end Go.Rad
/- How long what is written out may become. -/
namespace Go.Rad
open Go
def PBd (pl : List Node → PO) (C : Nat) : Prop := ∀ out, (pl out).1.length ≤ max C out.length
variable {pl : List Node → PO} {C : Nat}
theorem rest_len (hb : PBd pl C) (hC : 1024 ≤ C) : ∀ (m : Nat) (out : List Node), (restM pl m out).1.length ≤ max C out.length + 2 * m + 1
  | 0, out => by simp only [restM]; omega
  | m + 1, out => by
    have h1 := hb (out ++ [opNd 1 []])
    simp only [List.length_append, List.length_cons, List.length_nil] at h1
    have h2 := rest_len hb hC m (pl (out ++ [opNd 1 []])).1
    rw [restM]
    split
    · simp only [pushP, List.length_append, List.length_cons, List.length_nil]; omega
    · split
      · simp only [pushP, List.length_append, List.length_cons, List.length_nil]; omega
      · simp only [pushP, List.length_append, List.length_cons, List.length_nil]; omega
theorem rowL_len (hb : PBd pl C) : ∀ (n : Nat) (out : List Node) (row : List Int), (rowL pl n out row).1.1.length ≤ max C out.length ∧ (rowL pl n out row).1.2.length ≤ row.length + n
  | 0, out, row => by simp only [rowL]; omega
  | n + 1, out, row => by
    have h1 := hb out
    have h2 := rowL_len hb n (pl out).1 (row ++ [(pl out).2])
    simp only [List.length_append, List.length_cons, List.length_nil] at h2
    rw [rowL]
    split
    · simp only []; omega
    · omega
theorem rowE_len (hb : PBd pl C) (hC : 1024 ≤ C) (lo hi : Int) (hh : hi ≤ 4096) (hl : 0 ≤ lo) (a : List Node × List Int) : (rowE pl lo hi a).1.length ≤ max C a.1.length + 8193 ∧ (rowE pl lo hi a).2.length ≤ a.2.length + 1 := by
  have h1 := hb a.1
  have h2 := rest_len hb hC (hi - lo).toNat a.1
  unfold rowE
  split
  · simp only [List.length_append, List.length_cons, List.length_nil]; omega
  · split
    · simp only [List.length_append, List.length_cons, List.length_nil]; omega
    · omega
theorem catM_len (b : List Node × List Int) : (catM b).1.length ≤ b.1.length + 1 := by
  unfold catM; split
  · simp only []; omega
  · simp only [pushP, List.length_append, List.length_cons, List.length_nil]; omega
theorem row_len (hb : PBd pl C) (hC : 1024 ≤ C) (lo hi : Int) (hh : hi ≤ 4096) (hl : 0 ≤ lo) (out : List Node) : (rowM pl lo hi out).1.length ≤ max C out.length + 8194 := by
  have h1 := rowL_len hb lo.toNat out []
  have h2 := rowE_len hb hC lo hi hh hl (rowL pl lo.toNat out []).1
  have h3 := catM_len (rowE pl lo hi (rowL pl lo.toNat out []).1)
  unfold rowM
  split
  · simp only []; omega
  · omega
theorem cnt_len (hb : PBd pl C) (lo hi : Int) (out : List Node) : (cntM pl lo hi out).1.length ≤ max C out.length + 3 := by
  have h1 := hb out
  have h2 := hb (out ++ [opNd 1 []])
  simp only [List.length_append, List.length_cons, List.length_nil] at h2
  unfold cntM
  split
  · simp only [pushP, List.length_append, List.length_cons, List.length_nil]; omega
  · simp only [pushP, List.length_append, List.length_cons, List.length_nil]; omega
theorem end_len (hb : PBd pl C) (lo : Int) (out : List Node) : (endM pl lo out).1.length ≤ max C out.length + 3 := by
  have h1 := hb out
  have h2 := hb ((pl out).1 ++ [repNd lo lo (pl out).2])
  simp only [List.length_append, List.length_cons, List.length_nil] at h2
  unfold endM
  simp only [pushP, List.length_append, List.length_cons, List.length_nil]; omega
theorem rep_len (hb : PBd pl C) (hC : 1024 ≤ C) (most : Int) (bytes : Bool) (lo hi : Int) (hh : hi ≤ 4096) (hl : 0 ≤ lo) (out : List Node) : (repM pl most bytes lo hi out).1.length ≤ max C out.length + 8194 := by
  have h1 := row_len hb hC lo hi hh hl out
  have h2 := cnt_len hb lo hi out
  have h3 := end_len hb lo out
  unfold repM
  split
  · exact h1
  · split
    · omega
    · split <;> omega
theorem kids_len {pl : Int → List Node → PO} (hb : ∀ k, PBd (pl k) C) : ∀ (l : List Int) (out : List Node) (row : List Int), (kidsM pl l out row).1.length ≤ max C out.length ∧ (kidsM pl l out row).2.length = row.length + l.length
  | [], out, row => by simp only [kidsM]; exact ⟨by omega, by simp⟩
  | k :: l, out, row => by
    have h1 := hb k out
    have h2 := kids_len hb l (pl k out).1 (row ++ [(pl k out).2])
    simp only [List.length_append, List.length_cons, List.length_nil] at h2
    rw [kidsM]
    simp only [List.length_cons]
    omega
/-- Bounds are small. -/
def bndOk (ns : List Node) : Prop := ∀ n ∈ ns, 0 ≤ n.lo ∧ n.hi ≤ 4096
theorem bnd_at {ns : List Node} (h : bndOk ns) (k : Int) : 0 ≤ (nAt ns k).lo ∧ (nAt ns k).hi ≤ 4096 := by
  unfold nAt
  by_cases hk : k.toNat < ns.length
  · have : ns.getD k.toNat default = ns[k.toNat] := by simp [List.getD, hk]
    rw [this]; exact h _ (List.getElem_mem hk)
  · have : ns.getD k.toNat default = default := by simp [List.getD, List.getElem?_eq_none (by omega : ns.length ≤ k.toNat)]
    rw [this]; exact ⟨by decide, by decide⟩
theorem plan_len {ns : List Node} (hn : bndOk ns) (most : Int) : ∀ (f : Nat) (k : Int), PBd (planM ns most f k) (1024 + 8200 * f)
  | 0, k, out => by simp only [planM]; omega
  | f + 1, k, out => by
    obtain ⟨b1, b2⟩ := bnd_at hn k
    have h1 := rep_len (plan_len hn most f (kid0 (nAt ns k))) (by omega) most (decide ((nAt ns (kid0 (nAt ns k))).op = 2)) _ _ b2 b1 out
    have h2 := kids_len (fun k => plan_len hn most f k) (nAt ns k).l out []
    rw [planM]
    split
    · simp only []; omega
    · split
      · omega
      · simp only [pushP, List.length_append, List.length_cons, List.length_nil]; omega
end Go.Rad
/- An own row's content said otherwise. -/
namespace Go.Rad
open Go
theorem AGood.reRow {P : Program} {f : Nat} {fn : Func} {df : List DDel} {k : List Item} {tm : Tm} {sto : Sto} {R : AVal → Sto → Prop} (id : Nat) {g esz : Nat} {l : List (List AVal)} (l' : List (List AVal)) (hg : sget sto id = some (g, .row esz l)) (hl : l = l') (h : AGood P f fn df k tm (sput sto id (g, .row esz l')) R) : AGood P f fn df k tm sto R := by
  subst hl
  have hs : ∀ i, sget (sput sto id (g, .row esz l)) i = sget sto i := by
    intro i
    rw [sget_sput]
    split
    · rename_i e; subst e; exact hg.symm
    · rfl
  refine ⟨fun E G a w b h1 h2 h3 h4 h5 h6 h7 h8 h9 => h.go E G a w b h1 h2 h3 h4 h5 h6 h7 ⟨fun i g' o hi => ?_, fun i i' g1 g2 o o' hi hi' => ?_⟩ h9⟩
  · rw [hs] at hi; exact h8.obj _ _ _ hi
  · rw [hs] at hi hi'; exact h8.apart _ _ _ _ _ _ hi hi'
end Go.Rad
/- A row's last element. -/
namespace Go.Rad
open Go
theorem nodes_last (out : List Node) (n : Node) : (nodes (out ++ [n]))[out.length]? = some n.cells := by simp
theorem nodes_set (out : List Node) (n : Node) (y : List AVal) : (nodes (out ++ [n])).set out.length y = nodes out ++ [y] := by simp
theorem row_last {α : Type} (out : List α) (f : α → List AVal) (y : List AVal) : (out.map f ++ [y])[out.length]? = some y := by simp
theorem row_set {α : Type} (out : List α) (f : α → List AVal) (y z : List AVal) : (out.map f ++ [y]).set out.length z = out.map f ++ [z] := by simp
theorem last_ltI {α : Type} (out : List α) (n : α) : ((out.length : Int) < (out ++ [n]).length) = True := by simp; omega
theorem last_ltN {α : Type} (out : List α) (n : α) : (out.length < (out ++ [n]).length) = True := by simp
theorem row_ltN {α : Type} (out : List α) (f : α → List AVal) (y : List AVal) : (out.length < (out.map f ++ [y]).length) = True := by simp
/-- Several ways that lead to one place: what holds from there on is shown once. -/
theorem hv {α : Type} {P : α → Prop} {G : Prop} (main : (∀ a, P a) → G) (key : ∀ a, P a) : G := main key
structure Keep (P : Prop) : Prop where
  out : P
theorem hv0 {P G : Prop} (main : Keep P → G) (key : P) : G := main ⟨key⟩
/-- Where the driver stops. -/
structure Stop (G : Prop) : Prop where
  out : G
theorem stopI {G : Prop} (h : Stop G) : G := h.out
theorem stopE {G : Prop} (h : G) : Stop G := ⟨h⟩
end Go.Rad
/- Contracts: the bytes of a set, in a row. -/
namespace Go.Rad
open Go Go.Proofs
set_option linter.all false
set_option maxRecDepth 20000
set_option maxHeartbeats 4000000

def listI (s : ISet) : List Nat := (List.range 256).filter fun b => hasI s b
theorem list_c (s : ISet) : ACall Try.prog 86 [.agg s.cells] [] fun r s' => r = .sl true false (bytesL (listI s)) ∧ s' = [] := by
  have hh := fun b hb => has_c s.a s.b s.c s.d b hb
  obtain ⟨sa, sb, sc, sd⟩ := s
  simp only [ISet.cells]
  simp only at hh
  obtain ⟨S, hS⟩ : ∃ S, S = listI ⟨sa, sb, sc, sd⟩ := ⟨_, rfl⟩
  rw [← hS]
  rw [listI] at hS
  refine ACall.enter Try.func86 rfl (by kernel_rfl) (Nat.le_of_ble_eq_true rfl) ?_; simp only [initTm, Nat.reduceAdd]
  repeat' (first
  | refine gSq ?_ | refine gSk ?_ | refine gBl ?_ | refine gIb ?_ | refine gEx rfl ?_
  | ((first
  | (refine gRg [] [0, 1, 2, 3, 4, 6, 12] ?_; intro K hK)
  | (refine gd_split ?_ ?_ <;> intro hb <;> (try simp only [bls] at hb) <;> (try simp only [hb]))
  | refine gRt [] [.tmp 2] rfl ?_ | refine gDn [] [.tmp 2] rfl ?_) <;> (try simp only [go_sem, simprocAttr]))
  | (refine hK _ _ ?_; clear hK K; simp only [go_sem, simprocAttr])
  | refine gCd (by simp only [go_sem, simprocAttr]; rfl) rfl ?_
  | refine brT ?_ | refine brF ?_
  | (refine brS ?_ ?_ <;> intro hc <;> (try simp only [bls] at hc) <;> (try simp only [hc, bls]))
  | intro _ | refine And.intro ?_ ?_)
  all_goals first | omega | (unfold bigLen; omega) | exact ⟨_, _, ⟨rfl, rfl⟩, rfl⟩ | exact ⟨_, rfl⟩ | (rename_i hy; simp only [List.mem_singleton] at hy; subst hy; rfl) | with_reducible rfl | skip
  rename_i h1
  refine AGood.ownTm 3 900 1 (by decide) rfl fun g9 => ?_
  simp only [go_sem, simprocAttr]
  refine AGood.prune [1, 2, 3, 4] ?_; simp only [go_sem, simprocAttr]
  refine AGood.loopInv (α := Nat × Nat) (fun x => ([(1, .bx 1 h1 0), (2, .sl true true []), (3, .osl 900 x.2 0 ((List.range x.1).filter fun b => hasI ⟨sa, sb, sc, sd⟩ b).length), (4, .int .i64 x.1)], [(1, h1, .box [.int .u64 sa, .int .u64 sb, .int .u64 sc, .int .u64 sd]), (900, x.2, .row 1 (bytesL ((List.range x.1).filter fun b => hasI ⟨sa, sb, sc, sd⟩ b)))]))
    (fun x => x.1 ≤ 256) (fun x => 256 - x.1) (0, g9) (Nat.zero_le _) rfl ?_
  rintro ⟨i, g⟩ hi ih
  simp only at hi ih ⊢
  have hrl : ((List.range i).filter fun b => hasI ⟨sa, sb, sc, sd⟩ b).length ≤ 256 := by
    refine Nat.le_trans (List.length_filter_le _ _) ?_
    simpa using hi
  by_cases hle : i < 256
  · have e4 : (i : Int) < 256 := by omega
    have e6 : (i : Int) + 1 = ((i + 1 : Nat) : Int) := by omega
    have e7 := wr_u8n (n := i) (by omega)
    have hone : (List.range (i + 1)).filter (fun b => hasI ⟨sa, sb, sc, sd⟩ b) = (List.range i).filter (fun b => hasI ⟨sa, sb, sc, sd⟩ b) ++ (if hasI ⟨sa, sb, sc, sd⟩ i = true then [i] else []) := by
      rw [List.range_succ, List.filter_append]
      cases h : hasI ⟨sa, sb, sc, sd⟩ i <;> simp [h]
    have hc := hh i (by omega)
    cases hb : hasI ⟨sa, sb, sc, sd⟩ i
    · rw [hb] at hc hone
      simp only [Bool.false_eq_true, if_false, List.append_nil] at hone
      repeat' (first
  | refine gSq ?_ | refine gSk ?_ | refine gBl ?_ | refine gIb ?_ | refine gEx rfl ?_
  | ((first
  | (refine gRg [] [0, 1, 2, 3, 4, 6, 12] ?_; intro K hK)
  | refine cAl (hc) rfl rfl rfl ?_
  | (refine gd_split ?_ ?_ <;> intro hb <;> (try simp only [bls] at hb) <;> (try simp only [hb]))
  | refine gRt [] [.tmp 2] rfl ?_ | refine gDn [] [.tmp 2] rfl ?_) <;> (try simp only [go_sem, simprocAttr, e4, e6, e7]))
  | (refine hK _ _ ?_; clear hK K; simp only [go_sem, simprocAttr])
  | refine gCd (by simp only [go_sem, simprocAttr]; rfl) rfl ?_
  | refine brT ?_ | refine brF ?_
  | (refine brS ?_ ?_ <;> intro hc <;> (try simp only [bls] at hc) <;> (try simp only [hc, bls]))
  | intro _ | refine And.intro ?_ ?_)
      all_goals first | omega | (unfold bigLen; omega) | exact ⟨_, _, ⟨rfl, rfl⟩, rfl⟩ | exact ⟨_, rfl⟩ | (rename_i hy; simp only [List.mem_singleton] at hy; subst hy; rfl) | with_reducible rfl | skip
      refine AGood.filt [1, 900] ?_
      simp only [sf_cons, sf_nil, go_sem, simprocAttr]
      refine AGood.prune [1, 2, 3, 4] ?_; simp only [go_sem, simprocAttr]
      refine AGood.cast (ih (i + 1, g) (by simp only; omega) (by simp only; omega)) ?_ ?_
      · simp only [hone]
      · simp only [hone]
    · rw [hb] at hc hone
      simp only [if_true] at hone
      repeat' (first
  | refine gSq ?_ | refine gSk ?_ | refine gBl ?_ | refine gIb ?_ | refine gEx rfl ?_
  | ((first
  | (refine gRg [16] [0, 1, 2, 3, 4, 6, 12] ?_; intro K hK)
  | refine cAl (hc) rfl rfl rfl ?_
  | (refine gd_split ?_ ?_ <;> intro hb <;> (try simp only [bls] at hb) <;> (try simp only [hb]))
  | refine gRt [] [.tmp 2] rfl ?_ | refine gDn [] [.tmp 2] rfl ?_) <;> (try simp only [go_sem, simprocAttr, e4, e6, e7]))
  | (refine hK _ _ ?_; clear hK K; simp only [go_sem, simprocAttr])
  | refine gCd (by simp only [go_sem, simprocAttr]; rfl) rfl ?_
  | refine brT ?_ | refine brF ?_
  | (refine brS ?_ ?_ <;> intro hc <;> (try simp only [bls] at hc) <;> (try simp only [hc, bls]))
  | intro _ | refine And.intro ?_ ?_)
      all_goals first | omega | (unfold bigLen; omega) | exact ⟨_, _, ⟨rfl, rfl⟩, rfl⟩ | exact ⟨_, rfl⟩ | (rename_i hy; simp only [List.mem_singleton] at hy; subst hy; rfl) | with_reducible rfl | skip
      rename_i h'
      refine AGood.filt [1, 900] ?_
      simp only [sf_cons, sf_nil, go_sem, simprocAttr]
      refine AGood.prune [1, 2, 3, 4] ?_; simp only [go_sem, simprocAttr]
      refine AGood.cast (ih (i + 1, h') (by simp only; omega) (by simp only; omega)) ?_ ?_
      · simp only [hone]; simp
      · simp only [hone]; simp
  · have e4 : ¬ (i : Int) < 256 := by omega
    have hin : i = 256 := by omega
    rw [← hin] at hS
    rw [← hS] at hrl ⊢
    clear ih
    have e16 : (bytesL S).length = S.length := by simp [bytesL]
    have e15 : (bytesL S).take S.length = bytesL S := List.take_of_length_le (by simp [bytesL])
    repeat' (first
  | refine gSq ?_ | refine gSk ?_ | refine gBl ?_ | refine gIb ?_ | refine gEx rfl ?_
  | ((first
  | (refine AGood.at 7 ?_; (refine AGood.freeze 900 rfl ?_; simp only [rfT, rfS, rfO, rf, rf1, e15, e16, Nat.le_refl, true_and, go_sem, simprocAttr]); (refine gRg [] [0, 1, 2, 3, 4, 6, 12] ?_; intro K hK))
  | (refine gRg [] [0, 1, 2, 3, 4, 6, 12] ?_; intro K hK)
  | (refine gd_split ?_ ?_ <;> intro hb <;> (try simp only [bls] at hb) <;> (try simp only [hb]))
  | refine gRt [] [.tmp 2] rfl ?_ | refine gDn [] [.tmp 2] rfl ?_) <;> (try simp only [go_sem, simprocAttr, e4]))
  | (refine hK _ _ ?_; clear hK K; simp only [go_sem, simprocAttr])
  | refine gCd (by simp only [go_sem, simprocAttr]; rfl) rfl ?_
  | refine brT ?_ | refine brF ?_
  | (refine brS ?_ ?_ <;> intro hc <;> (try simp only [bls] at hc) <;> (try simp only [hc, bls]))
  | intro _ | refine And.intro ?_ ?_)
    all_goals first | omega | (unfold bigLen; omega) | exact ⟨_, _, ⟨rfl, rfl⟩, rfl⟩ | exact ⟨_, rfl⟩ | (rename_i hy; simp only [List.mem_singleton] at hy; subst hy; rfl) | with_reducible rfl | skip
end Go.Rad
/- Contracts: syntax, byte by byte: what a node has; whether nodes are a tree. -/
namespace Go.Rad
open Go Go.Proofs
set_option linter.all false
set_option maxRecDepth 20000
set_option maxHeartbeats 4000000

theorem ba_empty : (ByteArray.mk #[]) = ByteArray.empty := Eq.trans rfl rfl
theorem shape4uc (fl : Bool) (n : Node) (hn : n.name.size ≤ maxLen) : ACall Try.prog 52 [.agg (n.cellsF fl)] [] fun r s' => r = .bool (shapeOk n) ∧ s' = [] := by
  obtain ⟨no, ⟨na, nb, nc, nd⟩, nl, nlo, nhi, nn⟩ := n
  simp only [Node.cellsF]
  refine ACall.enter Try.func52 rfl (by kernel_rfl) (Nat.le_of_ble_eq_true rfl) ?_; simp only [initTm, Nat.reduceAdd]
  repeat' (first
  | refine gSq ?_ | refine gSk ?_ | refine gBl ?_ | refine gIb ?_ | refine gEx rfl ?_
  | ((first
  | (refine gRg [] [0, 1, 2, 3, 4, 5, 6, 23, 24, 42, 59, 78, 125] ?_; intro K hK)
  | refine cAl (name4uc _ hn) rfl rfl rfl ?_
  | (refine gd_split ?_ ?_ <;> intro hb <;> (try simp only [bls] at hb) <;> (try simp only [hb]))
  | refine gRt [] [.tmp 2] rfl ?_ | refine gDn [] [.tmp 2] rfl ?_) <;> (try simp only [go_sem, simprocAttr, ba_empty]))
  | (refine hK _ _ ?_; clear hK K; simp only [go_sem, simprocAttr])
  | refine gCd (by simp only [go_sem, simprocAttr]; rfl) rfl ?_
  | refine brT ?_ | refine brF ?_
  | (refine brS ?_ ?_ <;> intro hc <;> (try simp only [bls] at hc) <;> (try simp only [hc, bls]))
  | intro _ | refine And.intro ?_ ?_)
  all_goals (refine congrArg AVal.bool ?_; simp_all [shapeOk, ISet.none] <;> omega)
end Go.Rad
