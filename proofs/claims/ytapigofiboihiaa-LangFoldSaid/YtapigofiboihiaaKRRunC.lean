/- A call on known things, reckoned: the contract. -/
import Derived.Test.YtapigofiboihiaaKRRun
import Derived.Test.YtapigofiboihiaaKRNode
import Derived.Test.YtapigofiboihiaaKRGlob
import Derived.Test.YtapigofiboihiaaKC04p
import Derived.Test.YtapigofiboihiaaKP07n
import Derived.Test.YtapigofiboihiaaKRFrz
import Derived.OpenShut
import Derived.Carry
import Derived.Deep.Slices
import Derived.Deep.DeepHandedRow
set_option linter.all false
namespace Go.Rad
open Go
variable {P : Program} {L : Lay}
theorem quiet_ok : Quiet P := fun f args v sto h1 h2 h3 h4 => ACall.alone (ACall.none h4) (map_self fun x hx => tr_flat (List.all_eq_true.1 h1 x hx)) (bk_flat h2) h3
/-- Rows that a result holds are given away. -/
def finCells : AVal → List AVal
  | .tup vs => vs
  | v => [v]
def xFin : Nat → AVal → Sto → Option AVal
  | 0, v, _ => some v
  | k + 1, v, s =>
    match firstOsl (finCells v) with
    | none => some v
    | some id =>
      match sget s id with
      | some (g, .row _ l) => req (okFs id g l.length v && okFS id g l.length (sdel s id)) (xFin k (rf id g l v) (rfS id g l (sdel s id)))
      | _ => none
theorem fin_post {E : Gh} {R : AVal → Prop} {e : Ending} {w' : World} {r : Nat → Nat} : ∀ (k : Nat) {v v' : AVal} {s : Sto}, xFin k v s = some v' → R (mg r v') → Post E (fun v1 s1 => v1 = mg r v ∧ s1 = mgS r s) e w' → Post E (fun v1 _ => R v1) e w'
  | 0, v, v', s, h, hR, hp => by
    simp only [xFin, Option.some.injEq] at h; subst h
    exact hp.mono (.refl E) fun _ _ hx => by rw [hx.1]; exact hR
  | k + 1, v, v', s, h, hR, ⟨G', cr, r1, s1, h1, h2, h3, h4, h5, h6, h7⟩ => by
    simp only [xFin] at h
    split at h
    · cases h; exact ⟨G', cr, r1, s1, h1, h2, h3, h4, h5, by rw [h6]; exact hR⟩
    · split at h
      · rename_i g esz l hg
        simp only [req_iff, Bool.and_eq_true] at h
        obtain ⟨⟨hk1, hk2⟩, h⟩ := h
        subst h6 h7
        obtain ⟨G2, q1, q2, q3, q4⟩ := all_freeze (g := r g) (esz := esz) (l := l) h3 h4 (by rw [sget_mgS, hg]; rfl)
        refine fin_post k h hR ⟨G2, cr, _, _, h1, h2.trans q1, q2, q3, q4 _ _ h5, rf_mg hk1, ?_⟩
        rw [← sdel_mgS, ← rfS_mg _ hk2]
      · cases h
def rowIds : Sto → List Nat
  | [] => []
  | (i, _, .row _ _) :: s => i :: rowIds s
  | _ :: s => rowIds s
theorem sfilt_mg {r : Nat → Nat} {keep : List Nat} : ∀ s : Sto, mgS r (sfilt keep s) = sfilt keep (mgS r s)
  | [] => rfl
  | (i, g, o) :: s => by
    have ih := sfilt_mg (r := r) (keep := keep) s
    simp only [sf_cons, mgS]
    split
    · simp only [mgS, ih]
    · exact ih
/-- A closed call that is reckoned, and tells a thing that leads nowhere. -/
def ran (x : Option (AVal × Sto × Nat)) : Option AVal := x.bind fun x => (xFin 4 x.1 (sfilt (rowIds x.2.1) x.2.1)).bind fun v => req (flat v) (some v)
theorem run_c (hL : LOk P L) (hm : P.follows .mixedOrders = true) (hn : (P.funcs.all fun fn => !(fn.name == "runtime.NumGoroutine")) = true) (tab : Nat → Tab) {kn : Known1} (hkn : KnOk P kn) (fs : List Nat) (hfs : fs.all (fnOk P L tab) = true) (fuel k : Nat) {f : Nat} {args : List AVal} {v : AVal} (ha : args.all flat = true) (h : ran (xCall P L tab kn fuel fs k false f args [] 1000) = some v) :
    ACall P f args [] fun r s => r = v ∧ s = [] := by
  simp only [ran, Option.bind_eq_some_iff, req_iff, Option.some.injEq] at h
  obtain ⟨⟨u, s, n⟩, h1, u', h2, h3, rfl⟩ := h
  have h4 := (xCall_ok hL hm hn quiet_ok hkn hfs k false f args [] 1000 _ _ _ h1).2.2 id
  rw [map_self fun x hx => mg_id (flat_bd (List.all_eq_true.1 ha x hx))] at h4
  refine ACall.none ⟨h4.able, fun G w cargs a b c => (h4.calls G w cargs a b c).mono fun e w' p => ?_⟩
  obtain ⟨G', cr, r1, s1, x1, x2, x3, x4, x5, r', _, rfl, rfl⟩ := p
  exact fin_post (R := fun r => r = u') 4 h2 (mg_id (flat_bd h3)) ⟨G', cr, _, _, x1, x2, x3, sto_filt (rowIds s) x4, x5, rfl, (sfilt_mg s).symm⟩
end Go.Rad
/- What the run of closed calls must know of each function. -/
namespace Go.Rad
open Go
def rtabs : List Tab := [
  ⟨[], []⟩,
  ⟨[], []⟩,
  ⟨[], []⟩,
  ⟨[0, 1, 2, 3, 8, 9, 10, 11, 12, 13, 15, 17, 19, 36, 49, 50, 51, 52, 62, 69, 70, 71, 72, 83, 92, 93, 94, 95, 105], [(6, ⟨6, [0, 1, 2, 4, 5, 6, 3, 7, 8, 9], [], [], [], []⟩)]⟩,
  ⟨[0, 1, 2, 3, 4, 10, 11, 12, 13, 14, 15, 16, 17, 18, 19, 21, 23, 24, 46, 56, 63, 64, 65, 66, 76, 79, 86, 87, 88, 89, 99, 122], []⟩,
  ⟨[0, 1, 2, 6, 7, 8, 9, 10, 11, 12, 13, 21], []⟩,
  ⟨[0, 1, 2, 6, 7, 8, 9, 10, 11, 12, 13, 14, 15, 27, 42, 44, 45, 46, 58], [(13, ⟨11, [0, 1, 2, 3, 4, 5, 6, 7, 8, 9, 10], [], [], [], []⟩)]⟩,
  ⟨[0, 1, 2, 6, 7, 8, 9, 10, 11, 12, 13, 14, 15, 16, 17, 18, 19, 30, 32, 33, 34, 35], [(2, ⟨6, [0, 1, 2, 3, 4, 5, 6, 7, 8], [], [], [], []⟩), (17, ⟨20, [0, 1, 2, 3, 4, 5, 6, 7, 8, 9, 10, 11, 12, 13, 14, 15, 16, 17, 18, 19], [], [], [], []⟩)]⟩,
  ⟨[0, 1, 2, 3, 8, 9, 10, 11, 12, 13, 14, 31], []⟩,
  ⟨[0, 1, 2, 6, 7, 8, 9, 10, 11, 12, 18, 24, 25, 26, 27, 52], [(13, ⟨7, [0, 1, 2, 3, 5, 6, 7, 4, 8, 9, 10, 11, 12, 13, 14, 15, 16, 17, 18, 19, 20, 21, 22, 23], [], [], [], []⟩)]⟩,
  ⟨[0, 1, 4, 7, 8], []⟩,
  ⟨[0, 2], []⟩,
  ⟨[0, 2], []⟩,
  ⟨[0, 1, 2, 6, 19], []⟩,
  ⟨[0, 1, 4, 5, 10, 12, 13, 14, 24], [(6, ⟨9, [0, 1, 2, 3, 4, 5, 6, 7, 8], [], [], [], []⟩)]⟩,
  ⟨[0, 1, 2, 6, 7, 9, 10, 12, 16, 17, 18, 19, 23, 24, 25, 26], []⟩,
  ⟨[0, 2, 3, 4, 5, 6, 7, 8, 9, 13], []⟩,
  ⟨[0, 1, 3, 4], [(2, ⟨4, [0, 1, 3, 4, 2, 5, 6], [10, 14], [], [3], [3]⟩)]⟩,
  ⟨[0, 2], []⟩,
  ⟨[0, 2, 3, 4, 5, 6, 8, 12, 13, 14, 15, 20, 21, 22, 23, 32, 48, 61], [(11, ⟨12, [0, 1, 2, 3, 4, 5, 6, 7, 8, 9, 10, 11, 12], [], [], [], []⟩)]⟩,
  ⟨[0, 1, 2, 6, 7, 8, 25], []⟩,
  ⟨[0, 1, 2, 6, 7, 8, 25], []⟩,
  ⟨[0, 1, 2, 6, 7, 8, 9, 10, 23, 39, 45], []⟩,
  ⟨[0, 1, 4, 6], []⟩,
  ⟨[0, 1, 4, 5], []⟩,
  ⟨[0, 2], []⟩,
  ⟨[0, 2, 3, 4, 5, 8, 12], []⟩,
  ⟨[0, 2, 3, 4, 5, 8, 16, 27, 41], [(8, ⟨11, [0, 1, 2, 3, 4, 5, 6, 7, 8, 9, 10], [], [], [], []⟩)]⟩,
  ⟨[0, 2, 3, 7, 15], []⟩,
  ⟨[0, 2, 4], []⟩,
  ⟨[0, 2, 4], []⟩,
  ⟨[0, 1, 2, 3, 6, 7, 8, 10, 12, 13, 15, 22, 23, 25, 26, 27, 28, 44, 52, 55, 56, 57, 58, 67, 70, 71, 72, 73, 84], [(8, ⟨12, [0, 1, 2, 3, 4, 5, 6, 7, 8, 9, 10, 11, 12, 13], [], [], [], []⟩)]⟩,
  ⟨[0, 2], []⟩,
  ⟨[0, 1, 2, 3, 8, 9, 10, 11, 12, 18, 19, 26, 32, 44, 52, 67], []⟩,
  ⟨[0, 1, 4, 5, 6, 7, 8, 9, 15, 27], []⟩,
  ⟨[0, 2, 3, 4, 5, 6, 14, 18, 26, 43, 47, 55], []⟩,
  ⟨[0, 1, 4, 5, 6, 7, 13, 14, 16, 22, 32, 33, 39, 48, 49], []⟩,
  ⟨[0, 1, 2, 3, 4, 7, 18], []⟩,
  ⟨[0, 2, 3, 21, 43], [(2, ⟨15, [0, 1, 2, 3, 4, 5, 6, 7, 8, 9, 10, 11, 12, 13, 14], [], [], [], []⟩)]⟩,
  ⟨[0, 2], [(1, ⟨18, [0, 1, 2, 3, 4, 5, 6, 7, 8, 9, 10, 11, 12, 13, 14, 15, 16, 17], [], [], [], []⟩)]⟩,
  ⟨[0, 1, 2, 10], []⟩,
  ⟨[0, 1, 4, 5, 6, 8, 10, 18, 23, 24, 25, 26, 45], [(7, ⟨8, [0, 1, 2, 3, 4, 5, 6, 7, 8], [], [], [], []⟩)]⟩,
  ⟨[0, 1, 2, 4], []⟩,
  ⟨[0, 1, 4, 5], []⟩,
  ⟨[0, 1, 2, 3, 4, 6, 7, 8, 9, 10, 12, 13, 14, 24, 33, 50], [(3, ⟨6, [0, 1, 2, 3, 4, 5, 6, 7], [], [], [], []⟩), (11, ⟨6, [0, 1, 2, 3, 4, 5, 6, 7], [], [], [], []⟩)]⟩,
  ⟨[0, 1, 2, 3, 6, 7, 8, 14, 27], [(5, ⟨11, [0, 1, 2, 3, 4, 5, 6, 7, 8, 9, 10], [], [], [], []⟩)]⟩,
  ⟨[0, 1, 4, 5, 6, 13], []⟩,
  ⟨[0, 1, 2, 3, 5, 8, 9, 10, 11, 12, 13, 17, 30, 43, 59], []⟩,
  ⟨[0, 1, 4], []⟩,
  ⟨[0, 2], []⟩,
  ⟨[0, 1, 2, 3, 4, 5, 6, 23, 24, 42, 59, 78, 125], []⟩,
  ⟨[0, 1, 2, 6, 7, 8, 9, 10, 11, 16, 25, 42, 52], []⟩,
  ⟨[0, 1, 2, 4], []⟩,
  ⟨[0, 1, 2, 4, 8], []⟩,
  ⟨[0, 2, 3, 30, 40, 43, 49], [(2, ⟨27, [0, 1, 2, 3, 4, 5, 6, 7, 8, 9, 10, 11, 12, 13, 14, 15, 16, 17, 18, 19, 20, 21, 22, 23, 24, 25, 26], [], [], [], []⟩)]⟩,
  ⟨[0, 1, 3, 4], [(1, ⟨7, [0, 1, 2, 3, 4, 5, 6, 7, 8, 9, 10], [11], [], [], []⟩)]⟩,
  ⟨[0, 2, 3, 4, 5, 6, 14, 15, 16, 17, 18, 32, 45], [(10, ⟨7, [0, 1, 2, 3, 4, 5, 6], [], [], [], []⟩)]⟩,
  ⟨[0, 2, 3, 5, 7, 8, 9, 10, 28], []⟩,
  ⟨[0, 1, 4, 5, 6, 7, 8, 9, 13, 14, 15, 16, 22, 44], []⟩,
  ⟨[0, 2, 3, 5, 6, 8, 9, 10, 11, 12, 20, 25, 26, 27, 28], []⟩,
  ⟨[0, 2], []⟩,
  ⟨[0, 2, 3, 4, 5, 8, 13, 25, 32, 44], [(6, ⟨10, [0, 1, 2, 3, 4, 5, 6, 7, 8, 9], [], [], [], []⟩), (11, ⟨10, [0, 1, 2, 3, 4, 5, 6, 7, 8, 9], [], [], [], []⟩)]⟩,
  ⟨[0, 1, 4, 5, 10, 12, 13, 14, 24], [(6, ⟨9, [0, 1, 2, 3, 4, 5, 6, 7, 8], [], [], [], []⟩)]⟩,
  ⟨[0, 1, 4, 5, 9, 20], [(4, ⟨9, [0, 1, 2, 3, 4, 5, 6, 7, 8], [], [], [], []⟩)]⟩,
  ⟨[0, 2], []⟩,
  ⟨[0, 2, 3, 7, 25], []⟩,
  ⟨[0, 2, 3, 4, 5, 6, 11, 22, 32, 42, 52, 90], [(4, ⟨10, [0, 1, 2, 3, 4, 5, 6, 7, 8, 9], [], [], [], []⟩), (14, ⟨29, [0, 1, 2, 3, 4, 5, 6, 7, 8, 9, 10, 11, 12, 13, 14, 15, 16, 17, 18, 19, 20, 21, 22, 23, 24, 25, 26, 27, 28], [], [], [], []⟩)]⟩,
  ⟨[0, 1, 2, 3, 4, 12, 13, 21, 22, 55, 58, 62, 63, 71, 72], [(10, ⟨5, [0, 1, 2, 3, 4, 5, 6, 7], [], [], [1], [26]⟩)]⟩,
  ⟨[0, 2, 3, 5, 6, 7, 24], []⟩,
  ⟨[0, 1, 4, 5, 6, 7, 17, 20], []⟩,
  ⟨[0, 1, 2, 4, 6, 7, 8, 9, 15, 21, 22, 23, 24], [(7, ⟨8, [0, 1, 2, 3, 4, 5, 6, 7, 8], [], [], [], []⟩), (9, ⟨7, [0, 1, 2, 3, 4, 5, 6, 7, 8, 9, 10], [43], [], [], []⟩)]⟩,
  ⟨[0, 1, 4, 6, 16], []⟩,
  ⟨[0, 1, 2, 3, 8, 9, 10, 11, 12, 13, 14, 15, 16, 17, 18, 23, 29, 35, 50, 68, 72, 87, 113], [(17, ⟨12, [0, 1, 2, 3, 4, 5, 6, 7, 8, 9, 10, 11, 12, 13, 14], [], [], [], []⟩)]⟩,
  ⟨[0, 2], []⟩,
  ⟨[0, 2], []⟩,
  ⟨[0, 2], []⟩,
  ⟨[0, 2, 3, 4, 14, 19, 24, 40, 72, 85, 105], [(1, ⟨10, [0, 1, 2, 3, 4, 5, 6, 7, 8, 9], [], [], [], []⟩), (9, ⟨30, [0, 1, 2, 3, 4, 5, 6, 7, 8, 9, 10, 11, 12, 13, 14, 15, 16, 17, 18, 19, 20, 21, 22, 23, 24, 25, 26, 27, 28, 29], [], [], [], []⟩)]⟩,
  ⟨[0, 2, 3, 4, 5, 6, 35, 57, 61, 63, 80, 116], [(5, ⟨15, [0, 1, 2, 3, 4, 5, 6, 7, 8, 9, 10, 11, 12, 13, 14], [], [], [], []⟩), (8, ⟨15, [0, 1, 2, 3, 4, 5, 6, 7, 8, 9, 10, 11, 12, 13, 14], [], [], [], []⟩), (15, ⟨10, [0, 1, 2, 3, 4, 5, 6, 7, 8, 9], [], [], [], []⟩)]⟩,
  ⟨[0, 2], []⟩,
  ⟨[0, 2], []⟩,
  ⟨[0, 1, 2, 6, 7, 12, 30], [(4, ⟨13, [0, 1, 2, 3, 4, 5, 6, 7, 8, 9, 10, 11, 12, 13, 14], [], [], [], []⟩), (6, ⟨15, [0, 1, 2, 3, 4, 5, 6, 7, 8, 9, 10, 11, 12, 13, 14, 15, 16, 17], [], [], [], []⟩)]⟩,
  ⟨[0, 1, 2, 6, 7, 8, 9, 10, 19, 30], [(10, ⟨17, [0, 1, 2, 3, 4, 5, 6, 7, 8, 9, 10, 11, 12, 13, 14, 15, 16, 17, 18, 19], [], [], [], []⟩)]⟩,
  ⟨[0, 1, 2, 6, 7, 8, 9, 10, 15, 33, 43], [(10, ⟨17, [0, 1, 2, 3, 4, 5, 6, 7, 8, 9, 10, 11, 12, 13, 14, 15, 16, 17, 18, 19], [], [], [], []⟩)]⟩,
  ⟨[0, 1, 2, 6, 7, 8, 9, 10, 11, 12, 32, 34, 49, 51, 54], []⟩,
  ⟨[0, 1, 2, 6, 7, 13], [(3, ⟨13, [0, 1, 2, 3, 4, 5, 6, 7, 8, 9, 10, 11, 12, 13, 14, 15], [], [], [], []⟩)]⟩,
  ⟨[0, 1, 2, 6, 7, 8, 9, 10, 14, 32, 37, 41, 61, 65, 78, 98, 103, 116], [(5, ⟨13, [0, 1, 2, 3, 4, 5, 6, 7, 8, 9, 10, 11, 12, 13, 14, 15], [], [], [], []⟩), (11, ⟨15, [0, 1, 2, 3, 4, 5, 6, 7, 8, 9, 10, 11, 12, 13, 14, 15, 16, 17], [], [], [], []⟩), (16, ⟨9, [0, 1, 2, 3, 4, 5, 6, 7, 8, 9, 10], [], [], [], []⟩), (17, ⟨15, [0, 1, 2, 3, 4, 5, 6, 7, 8, 9, 10, 11, 12, 13, 14, 15, 16, 17], [], [], [], []⟩), (22, ⟨9, [0, 1, 2, 3, 4, 5, 6, 7, 8, 9, 10], [], [], [], []⟩), (23, ⟨15, [0, 1, 2, 3, 4, 5, 6, 7, 8, 9, 10, 11, 12, 13, 14, 15, 16, 17], [], [], [], []⟩)]⟩,
  ⟨[0, 1, 2, 3, 8, 9, 10, 43, 59, 64], [(1, ⟨13, [0, 1, 2, 3, 4, 5, 6, 7, 8, 9, 10, 11, 12, 13, 14, 15], [], [], [], []⟩), (3, ⟨12, [0, 1, 2, 3, 4, 5, 6, 7, 8, 9, 10, 11, 12, 13, 14], [], [], [], []⟩), (5, ⟨12, [0, 1, 2, 3, 4, 5, 6, 7, 8, 9, 10, 11, 12, 13], [], [], [], []⟩), (8, ⟨13, [0, 1, 2, 3, 4, 5, 6, 7, 8, 9, 10, 11, 12, 13, 14, 15], [], [], [], []⟩)]⟩,
  ⟨[0, 1, 2, 3, 8, 9, 10, 11, 43, 60, 65, 112, 129, 134], [(1, ⟨13, [0, 1, 2, 3, 4, 5, 6, 7, 8, 9, 10, 11, 12, 13, 14, 15], [], [], [], []⟩), (3, ⟨12, [0, 1, 2, 3, 4, 5, 6, 7, 8, 9, 10, 11, 12, 13], [], [], [], []⟩), (5, ⟨12, [0, 1, 2, 3, 4, 5, 6, 7, 8, 9, 10, 11, 12, 13, 14], [], [], [], []⟩), (8, ⟨13, [0, 1, 2, 3, 4, 5, 6, 7, 8, 9, 10, 11, 12, 13, 14, 15], [], [], [], []⟩), (10, ⟨13, [0, 1, 2, 3, 4, 5, 6, 7, 8, 9, 10, 11, 12, 13, 14, 15], [], [], [], []⟩), (13, ⟨12, [0, 1, 2, 3, 4, 5, 6, 7, 8, 9, 10, 11, 12, 13], [], [], [], []⟩), (15, ⟨12, [0, 1, 2, 3, 4, 5, 6, 7, 8, 9, 10, 11, 12, 13, 14], [], [], [], []⟩), (18, ⟨13, [0, 1, 2, 3, 4, 5, 6, 7, 8, 9, 10, 11, 12, 13, 14, 15], [], [], [], []⟩), (21, ⟨13, [0, 1, 2, 3, 4, 5, 6, 7, 8, 9, 10, 11, 12, 13, 14, 15], [], [], [], []⟩)]⟩,
  ⟨[0, 2, 4, 8], []⟩,
  ⟨[0, 2, 4, 8, 14], []⟩,
  ⟨[0, 2, 3, 8, 39], []⟩,
  ⟨[0, 2, 3, 4, 5, 6, 7, 8, 31, 65, 83, 99, 113, 116, 121], [(2, ⟨16, [0, 1, 2, 3, 4, 5, 6, 7, 8, 9, 10, 11, 12, 13, 14, 15], [], [], [], []⟩), (6, ⟨26, [0, 1, 2, 3, 4, 5, 6, 7, 8, 9, 10, 11, 12, 13, 14, 15, 16, 17, 18, 19, 20, 21, 22, 23, 24, 25], [], [], [], []⟩), (9, ⟨15, [0, 1, 2, 3, 4, 5, 6, 7, 8, 9, 10, 11, 12, 13, 14], [], [], [], []⟩)]⟩,
  ⟨[0, 1, 2, 3, 4, 7, 14], []⟩,
  ⟨[0, 2, 3, 4, 9], [(5, ⟨6, [0, 1, 2, 3, 4, 5, 6], [], [], [], []⟩)]⟩,
  ⟨[0, 2, 3, 29, 38, 57], [(3, ⟨15, [0, 1, 2, 3, 4, 5, 6, 7, 8, 9, 10, 11, 12, 13, 14], [], [], [], []⟩), (8, ⟨12, [0, 1, 2, 3, 4, 5, 6, 7, 8, 9, 10, 11], [], [], [], []⟩), (12, ⟨13, [0, 1, 2, 3, 4, 5, 6, 7, 8, 9, 10, 11, 12, 13, 14], [], [], [], []⟩)]⟩,
  ⟨[0, 1, 4, 5, 9, 16], []⟩,
  ⟨[0], []⟩,
  ⟨[0, 2, 3, 4, 5, 6, 7, 29, 32, 56, 59, 62, 65, 78, 120, 126], [(1, ⟨10, [0, 1, 2, 3, 4, 5, 6, 7, 8, 9], [], [], [], []⟩), (9, ⟨10, [0, 1, 2, 3, 4, 5, 6, 7, 8, 9], [], [], [], []⟩), (18, ⟨11, [0, 1, 2, 3, 4, 5, 6, 7, 8, 9, 10], [], [], [], []⟩), (21, ⟨11, [0, 1, 2, 3, 4, 5, 6, 7, 8, 9, 10], [], [], [], []⟩), (22, ⟨12, [0, 1, 2, 3, 4, 5, 6, 7, 8, 9, 10, 11], [], [], [], []⟩)]⟩,
  ⟨[0, 2, 3, 4, 23, 70], [(3, ⟨15, [0, 1, 2, 3, 4, 5, 6, 7, 8, 9, 10, 11, 12, 13, 14], [], [], [], []⟩), (4, ⟨16, [0, 1, 2, 3, 4, 5, 6, 7, 8, 9, 10, 11, 12, 13, 14, 15], [], [], [], []⟩)]⟩,
  ⟨[0, 1, 2, 3, 8, 9, 16, 36, 52], [(3, ⟨18, [0, 1, 2, 3, 4, 5, 6, 7, 8, 9, 10, 11, 12, 13, 14, 15, 16, 17, 18, 19], [], [], [], []⟩), (5, ⟨12, [0, 1, 2, 3, 4, 5, 6, 7, 8, 9, 10, 11, 12, 13], [], [], [], []⟩), (6, ⟨21, [0, 1, 2, 3, 4, 5, 6, 7, 8, 9, 10, 11, 12, 13, 14, 15, 16, 17, 18, 19, 20, 21, 22, 23], [], [], [], []⟩)]⟩,
  ⟨[0, 2], []⟩,
  ⟨[0, 2], [(1, ⟨9, [0, 1, 2, 3, 4, 5, 6, 7, 8, 9], [], [], [], []⟩), (2, ⟨9, [0, 1, 2, 3, 4, 5, 6, 7, 8, 9], [], [], [], []⟩), (3, ⟨9, [0, 1, 2, 3, 4, 5, 6, 7, 8, 9], [], [], [], []⟩)]⟩,
  ⟨[0, 1, 2, 6], []⟩,
  ⟨[0, 1, 2, 3, 4, 10], []⟩,
  ⟨[0, 2, 4, 21], [(4, ⟨10, [0, 1, 2, 3, 4, 5, 6, 7, 8, 9], [], [], [], []⟩)]⟩,
  ⟨[0, 1, 4, 5, 6, 13], []⟩,
  ⟨[0, 2, 3, 4, 5, 8, 14, 23], []⟩,
  ⟨[0, 2, 4, 13], []⟩,
  ⟨[0, 1, 2, 3, 8, 9, 18], [(1, ⟨8, [0, 1, 2, 3, 4, 5, 6, 7, 8], [], [], [], []⟩)]⟩,
  ⟨[], []⟩,
  ⟨[], []⟩,
  ⟨[], []⟩,
  ⟨[], []⟩,
  ⟨[], []⟩,
  ⟨[], []⟩,
  ⟨[], []⟩,
  ⟨[], []⟩,
  ⟨[], []⟩,
  ⟨[], []⟩,
  ⟨[], []⟩,
  ⟨[], []⟩,
  ⟨[], []⟩,
  ⟨[], []⟩,
  ⟨[], []⟩,
  ⟨[], []⟩]
def rtab : Nat → Tab := fun f => rtabs.getD f ⟨[], []⟩
theorem no_num : (Go.Proofs.Try.prog.funcs.all fun fn => !(fn.name == "runtime.NumGoroutine")) = true := by decide +kernel
theorem kn_none : KnOk Go.Proofs.Try.prog (fun _ => none) := fun _ _ _ _ h => by cases h
theorem ran_c {kn : Known1} (hkn : KnOk Go.Proofs.Try.prog kn) (fs : List Nat) (hfs : fs.all (fnOk Go.Proofs.Try.prog LL rtab) = true) (fuel k : Nat) {f : Nat} {args : List AVal} {v : AVal} (ha : args.all flat = true) (h : ran (xCall Go.Proofs.Try.prog LL rtab kn fuel fs k false f args [] 1000) = some v) : ACall Go.Proofs.Try.prog f args [] fun r s => r = v ∧ s = [] := run_c LL_ok mixed no_num rtab hkn fs hfs fuel k ha h
end Go.Rad
/- What is known of some calls by their contracts, for the run of closed calls. -/
namespace Go.Rad
open Go Go.Proofs
def kIn : List AVal → Option AVal
  | [.int .u8 c, .str l] => req (decide (0 ≤ c) && Nat.ble l.size 1000000) (some (.bool (inS c.toNat l)))
  | _ => none
def decB : List (List AVal) → Option (List Nat)
  | [] => some []
  | [.int .u8 n] :: l => req (decide (0 ≤ n) && decide (n ≤ 255)) ((decB l).map (n.toNat :: ·))
  | _ => none
theorem decB_ok : ∀ {l : List (List AVal)} {bs : List Nat}, decB l = some bs → l = bytesL bs ∧ ∀ x ∈ bs, x ≤ 255
  | [], bs, h => by cases h; exact ⟨rfl, fun _ h => by cases h⟩
  | x :: l, bs, h => by
    unfold decB at h
    split at h
    · rename_i h1; cases h1
    · rename_i n l' h1
      cases h1
      simp only [req_iff, Bool.and_eq_true, decide_eq_true_eq] at h
      obtain ⟨⟨h1, h2⟩, h⟩ := h
      obtain ⟨bs', h3, rfl⟩ := mp_some h
      obtain ⟨h4, h5⟩ := decB_ok h3
      refine ⟨?_, fun x hx => ?_⟩
      · rw [h4]; simp only [bytesL, List.map_cons]; rw [Int.toNat_of_nonneg h1]
      · rcases List.mem_cons.1 hx with rfl | hx
        · omega
        · exact h5 x hx
    · cases h
def decS : List (List AVal) → Option (List ISet)
  | [] => some []
  | [.int .u64 a, .int .u64 b, .int .u64 c, .int .u64 d] :: l => (decS l).map (⟨a, b, c, d⟩ :: ·)
  | _ => none
theorem decS_ok : ∀ {l : List (List AVal)} {ss : List ISet}, decS l = some ss → l = sets ss
  | [], bs, h => by cases h; rfl
  | x :: l, bs, h => by
    unfold decS at h
    split at h
    · rename_i h1; cases h1
    · rename_i a b c d l' h1
      cases h1
      obtain ⟨bs', h3, rfl⟩ := mp_some h
      rw [decS_ok h3]; rfl
    · cases h
def kOf : List AVal → Option AVal
  | [.sl _ _ l] => (decB l).bind fun bs => req (Nat.ble bs.length 1000000) (some (.agg (bs.foldl withI ISet.none).cells))
  | _ => none
def kRange : List AVal → Option AVal
  | [.int .u8 lo, .int .u8 hi] => req (decide (0 ≤ lo) && decide (lo ≤ 255) && decide (0 ≤ hi) && decide (hi ≤ 255)) (some (.agg (rangeI lo.toNat hi.toNat).cells))
  | _ => none
def kOr : List AVal → Option AVal
  | [.sl _ _ l] => (decS l).bind fun ss => req (Nat.ble ss.length 1000000) (some (.agg (orI ss).cells))
  | _ => none
def kNot : List AVal → Option AVal
  | [.agg [.int .u64 a, .int .u64 b, .int .u64 c, .int .u64 d]] => some (.agg (notI ⟨a, b, c, d⟩).cells)
  | _ => none
def kName : List AVal → Option AVal
  | [.str s] => req (Nat.ble s.size maxLen) (some (.bool (nameOk s)))
  | _ => none
/-- One function's calls, and what else is known. -/
def kAdd (f0 : Nat) (g : List AVal → Option AVal) (kn : Known1) : Known1 := fun f => match Nat.beq f f0 with | true => some g | false => kn f
theorem kAdd_ok {f0 : Nat} {g : List AVal → Option AVal} {kn : Known1} (h : ∀ args v, g args = some v → ACall Try.prog f0 args [] fun r s => r = v ∧ s = []) (hk : KnOk Try.prog kn) : KnOk Try.prog (kAdd f0 g kn) := by
  intro f g' args v hg hv
  unfold kAdd at hg
  split at hg
  · rename_i e; cases hg; rw [Nat.eq_of_beq_eq_true e]; exact h args v hv
  · exact hk f g' args v hg hv
def kn4 : Known1 := kAdd 95 kIn (kAdd 93 kOf (kAdd 105 kRange (kAdd 106 kOr (kAdd 92 kNot (kAdd 65 kName fun _ => none)))))
theorem kn4uok : KnOk Try.prog kn4 := by
  refine kAdd_ok (fun args v h => ?_) (kAdd_ok (fun args v h => ?_) (kAdd_ok (fun args v h => ?_) (kAdd_ok (fun args v h => ?_) (kAdd_ok (fun args v h => ?_) (kAdd_ok (fun args v h => ?_) kn_none)))))
  · unfold kIn at h
    split at h
    · rename_i c l
      simp only [req_iff, Bool.and_eq_true, decide_eq_true_eq, Nat.ble_eq, Option.some.injEq] at h
      obtain ⟨⟨h1, h2⟩, rfl⟩ := h
      have := in4uc c.toNat l h2
      rwa [Int.toNat_of_nonneg h1] at this
    · cases h
  · unfold kOf at h
    split at h
    · simp only [Option.bind_eq_some_iff, req_iff, Nat.ble_eq, Option.some.injEq] at h
      obtain ⟨bs, h1, h2, rfl⟩ := h
      obtain ⟨rfl, h3⟩ := decB_ok h1
      exact of_c _ _ bs h3 h2
    · cases h
  · unfold kRange at h
    split at h
    · rename_i lo hi
      simp only [req_iff, Bool.and_eq_true, decide_eq_true_eq, Option.some.injEq] at h
      obtain ⟨⟨⟨⟨h1, h2⟩, h3⟩, h4⟩, rfl⟩ := h
      have := range_c lo.toNat hi.toNat (by omega) (by omega)
      rwa [Int.toNat_of_nonneg h1, Int.toNat_of_nonneg h3] at this
    · cases h
  · unfold kOr at h
    split at h
    · simp only [Option.bind_eq_some_iff, req_iff, Nat.ble_eq, Option.some.injEq] at h
      obtain ⟨ss, h1, h2, rfl⟩ := h
      rw [decS_ok h1]
      exact or_c _ _ ss h2
    · cases h
  · unfold kNot at h
    split at h
    · cases h; exact not_c _ _ _ _
    · cases h
  · unfold kName at h
    split at h
    · simp only [req_iff, Nat.ble_eq, Option.some.injEq] at h
      obtain ⟨h1, rfl⟩ := h
      exact name4uc _ h1
    · cases h
/-- The reader of the document. -/
def fsR : List Nat := [27, 38, 39, 40, 54, 55, 66, 76, 77, 90, 91, 94, 97, 98, 104, 96, 75, 107]
theorem fsR_ok : fsR.all (fnOk Try.prog LL rtab) = true := by decide +kernel
theorem parse_run {s : ByteArray} {v : AVal} (h : ran (xCall Try.prog LL rtab kn4 10000 fsR 60 false 27 [.str s] [] 1000) = some v) : ACall Try.prog 27 [.str s] [] fun r s => r = v ∧ s = [] := ran_c kn4uok fsR fsR_ok _ _ rfl h
end Go.Rad
/- Contracts: the statements of layer 7: what they share. -/
namespace Go.Rad
open Go Go.Proofs
set_option linter.all false
set_option maxRecDepth 20000
set_option maxHeartbeats 4000000

theorem maxI {a b : Int} (ha : 0 ≤ a ∧ a ≤ 4) (hb : 0 ≤ b ∧ b ≤ 4) : 0 ≤ max a b ∧ max a b ≤ 4 := by omega
theorem set_in {D : List Int} {i : Nat} {v : Int} (h : ∀ d ∈ D, 0 ≤ d ∧ d ≤ 4) (hv : 0 ≤ v ∧ v ≤ 4) : ∀ d ∈ D.set i v, 0 ≤ d ∧ d ≤ 4 := by
  intro d hd
  rcases List.mem_or_eq_of_mem_set hd with h1 | h1
  · exact h d h1
  · rw [h1]; exact hv
theorem light7uc (l : List Node) (hl1 : l.length ≤ 60) (hok : ∀ n ∈ l, n.name.size ≤ maxLen ∧ n.l.length ≤ maxLen) : ACall Try.prog 19 [.sl true false (nodes l)] [] fun r s => (∃ b : Bool, r = .bool b) ∧ s = [] := by
  have hrep : List.map (List.map nrm1) (List.replicate l.length [AVal.int .i64 0]) = ints (List.replicate l.length 0) := by simp [nrm1]
  refine ACall.enter Try.func19 rfl (by kernel_rfl) (Nat.le_of_ble_eq_true rfl) ?_; simp only [initTm, Nat.reduceAdd]
  repeat' (first
  | refine gSq ?_ | refine gSk ?_ | refine gBl ?_ | refine gIb ?_ | refine gEx rfl ?_
  | ((first
  | (refine gRg [] [0, 2, 3, 4, 5, 6, 8, 12, 13, 14, 15, 20, 21, 22, 23, 32, 48, 61] ?_; intro K hK)
  | (refine gDr 11 [] 12 [0, 1, 2, 3, 4, 5, 6, 7, 8, 9, 10, 11, 12] [0, 2, 3, 4, 5, 6, 8, 12, 13, 14, 15, 20, 21, 22, 23, 32, 48, 61] rfl ?_; intro K hK)
  | (refine gd_split ?_ ?_ <;> intro hb <;> (try simp only [bls] at hb) <;> (try simp only [hb]))
  | refine gRt [] [.tmp 2] rfl ?_ | refine gDn [] [.tmp 2] rfl ?_) <;> (try simp only [go_sem, simprocAttr, hrep]))
  | (refine hK _ _ ?_; clear hK K; simp only [go_sem, simprocAttr])
  | refine gCd (by simp only [go_sem, simprocAttr]; rfl) rfl ?_
  | refine brT ?_ | refine brF ?_
  | (refine brS ?_ ?_ <;> intro hc <;> (try simp only [bls] at hc) <;> (try simp only [hc, bls]))
  | intro _ | refine And.intro ?_ ?_)
  all_goals first | omega | (unfold bigLen; omega) | exact ⟨_, _, ⟨rfl, rfl⟩, rfl⟩ | exact ⟨_, rfl⟩ | (rename_i hy; simp only [List.mem_singleton] at hy; subst hy; rfl) | with_reducible rfl | skip
  rename_i h11
  refine AGood.prune [2, 3, 4, 12, 13, 14] ?_; simp only [go_sem, simprocAttr]
  refine AGood.loopInv (α := Nat × List Int × Nat) (fun x => ([(2, .bool false), (3, .osl 11 h11 0 l.length), (4, .int .i64 x.2.2), (12, .sl true false (nodes l)), (13, .int .i64 l.length), (14, .int .i64 x.1)], [(11, h11, .row 1 (ints x.2.1))]))
    (fun x => x.1 ≤ l.length ∧ x.2.1.length = l.length ∧ (∀ d ∈ x.2.1, 0 ≤ d ∧ d ≤ 4) ∧ x.2.2 ≤ x.1) (fun x => l.length - x.1) (0, List.replicate l.length 0, 0) ⟨Nat.zero_le _, by simp, fun d hd => by rw [(List.mem_replicate.1 hd).2]; decide, Nat.zero_le _⟩ rfl ?_
  rintro ⟨i, D, many⟩ ⟨hi, hDl, hD, hmany⟩ ih
  simp only at hi hDl hD hmany ih ⊢
  by_cases hle : i < l.length
  · have e4 : (i : Int) < l.length := by omega
    have e5 : (0 : Int) ≤ i := by omega
    have hx : l[i]? = some l[i] := List.getElem?_eq_getElem hle
    obtain ⟨_, m2⟩ := hok _ (List.mem_of_getElem? hx)
    generalize l[i] = n at hx m2
    obtain ⟨xo, ⟨xa, xb, xc, xd⟩, xl, xlo, xhi, xn⟩ := n
    simp only at m2
    unfold maxLen at m2
    repeat' (first
  | refine gSq ?_ | refine gSk ?_ | refine gBl ?_ | refine gIb ?_ | refine gEx rfl ?_
  | ((first
  | (refine gRg [] [0, 2, 3, 4, 5, 6, 8, 12, 13, 14, 15, 20, 21, 22, 23, 32, 48, 61] ?_; intro K hK)
  | (refine gDr 11 [] 12 [0, 1, 2, 3, 4, 5, 6, 7, 8, 9, 10, 11, 12] [0, 2, 3, 4, 5, 6, 8, 12, 13, 14, 15, 20, 21, 22, 23, 32, 48, 61] rfl ?_; intro K hK)
  | (refine gd_split ?_ ?_ <;> intro hb <;> (try simp only [bls] at hb) <;> (try simp only [hb]))
  | refine gRt [] [.tmp 2] rfl ?_ | refine gDn [] [.tmp 2] rfl ?_) <;> (try simp only [go_sem, simprocAttr, e4, e5, hx, Option.some.injEq, forall_eq']))
  | (refine hK _ _ ?_; clear hK K; simp only [go_sem, simprocAttr])
  | refine gCd (by simp only [go_sem, simprocAttr]; rfl) rfl ?_
  | refine brT ?_ | refine brF ?_
  | (refine brS ?_ ?_ <;> intro hc <;> (try simp only [bls] at hc) <;> (try simp only [hc, bls]))
  | intro _ | refine And.intro ?_ ?_)
    all_goals first | omega | (unfold bigLen; omega) | exact ⟨_, _, ⟨rfl, rfl⟩, rfl⟩ | exact ⟨_, rfl⟩ | (rename_i hy; simp only [List.mem_singleton] at hy; subst hy; rfl) | with_reducible rfl | skip
    rename_i h6
    refine AGood.prune [2, 3, 4, 5, 6, 12, 13, 14, 20, 21, 22] ?_; simp only [go_sem, simprocAttr]
    refine AGood.loopInv (α := Nat × List Int) (fun x => ([(2, .bool false), (3, .osl 11 h11 0 l.length), (4, .int .i64 many), (5, .int .i64 i), (6, .bx 6 h6 0), (12, .sl true false (nodes l)), (13, .int .i64 l.length), (14, .int .i64 i), (20, .sl true false (ints xl)), (21, .int .i64 xl.length), (22, .int .i64 x.1)], [(6, h6, .box [.int .u8 xo, .int .u64 xa, .int .u64 xb, .int .u64 xc, .int .u64 xd, .sl true false (ints xl), .int .i64 xlo, .int .i64 xhi, .str xn]), (11, h11, .row 1 (ints x.2))]))
      (fun x => x.1 ≤ xl.length ∧ x.2.length = l.length ∧ (∀ d ∈ x.2, 0 ≤ d ∧ d ≤ 4)) (fun x => xl.length - x.1) (0, D) ⟨Nat.zero_le _, hDl, hD⟩ rfl ?_
    rintro ⟨j, D⟩ ⟨hj, hDl, hD⟩ ih2
    simp only at hj hDl hD ih2 ⊢
    have e6 : i < D.length := by omega
    have hDi : D[i]? = some D[i] := List.getElem?_eq_getElem e6
    have hdi := hD D[i] (List.getElem_mem e6)
    by_cases hlj : j < xl.length
    · have f4 : (j : Int) < xl.length := by omega
      have f5 : (0 : Int) ≤ j := by omega
      have hx2 : xl[j]? = some xl[j] := List.getElem?_eq_getElem hlj
      generalize xl[j] = kd at hx2
      by_cases hneg : kd < 0
      · repeat' (first
  | refine gSq ?_ | refine gSk ?_ | refine gBl ?_ | refine gIb ?_ | refine gEx rfl ?_
  | ((first
  | (refine gRg [] [0, 2, 3, 4, 5, 6, 8, 12, 13, 14, 15, 20, 21, 22, 23, 32, 48, 61] ?_; intro K hK)
  | (refine gDr 11 [] 12 [0, 1, 2, 3, 4, 5, 6, 7, 8, 9, 10, 11, 12] [0, 2, 3, 4, 5, 6, 8, 12, 13, 14, 15, 20, 21, 22, 23, 32, 48, 61] rfl ?_; intro K hK)
  | (refine gd_split ?_ ?_ <;> intro hb <;> (try simp only [bls] at hb) <;> (try simp only [hb]))
  | refine gRt [] [.tmp 2] rfl ?_ | refine gDn [] [.tmp 2] rfl ?_) <;> (try simp only [go_sem, simprocAttr, e4, e5, e6, f4, f5, hx2, hneg, Option.some.injEq, forall_eq']))
  | (refine hK _ _ ?_; clear hK K; simp only [go_sem, simprocAttr])
  | refine gCd (by simp only [go_sem, simprocAttr]; rfl) rfl ?_
  | refine brT ?_ | refine brF ?_
  | (refine brS ?_ ?_ <;> intro hc <;> (try simp only [bls] at hc) <;> (try simp only [hc, bls]))
  | intro _ | refine And.intro ?_ ?_)
        all_goals first | omega | (unfold bigLen; omega) | exact ⟨_, _, ⟨rfl, rfl⟩, rfl⟩ | exact ⟨_, rfl⟩ | (rename_i hy; simp only [List.mem_singleton] at hy; subst hy; rfl) | with_reducible rfl | skip
        all_goals (exact ⟨⟨true, rfl⟩, rfl⟩)
      by_cases hgt : (i : Int) ≤ kd
      · repeat' (first
  | refine gSq ?_ | refine gSk ?_ | refine gBl ?_ | refine gIb ?_ | refine gEx rfl ?_
  | ((first
  | (refine gRg [] [0, 2, 3, 4, 5, 6, 8, 12, 13, 14, 15, 20, 21, 22, 23, 32, 48, 61] ?_; intro K hK)
  | (refine gDr 11 [] 12 [0, 1, 2, 3, 4, 5, 6, 7, 8, 9, 10, 11, 12] [0, 2, 3, 4, 5, 6, 8, 12, 13, 14, 15, 20, 21, 22, 23, 32, 48, 61] rfl ?_; intro K hK)
  | (refine gd_split ?_ ?_ <;> intro hb <;> (try simp only [bls] at hb) <;> (try simp only [hb]))
  | refine gRt [] [.tmp 2] rfl ?_ | refine gDn [] [.tmp 2] rfl ?_) <;> (try simp only [go_sem, simprocAttr, e4, e5, e6, f4, f5, hx2, hneg, hgt, Option.some.injEq, forall_eq']))
  | (refine hK _ _ ?_; clear hK K; simp only [go_sem, simprocAttr])
  | refine gCd (by simp only [go_sem, simprocAttr]; rfl) rfl ?_
  | refine brT ?_ | refine brF ?_
  | (refine brS ?_ ?_ <;> intro hc <;> (try simp only [bls] at hc) <;> (try simp only [hc, bls]))
  | intro _ | refine And.intro ?_ ?_)
        all_goals first | omega | (unfold bigLen; omega) | exact ⟨_, _, ⟨rfl, rfl⟩, rfl⟩ | exact ⟨_, rfl⟩ | (rename_i hy; simp only [List.mem_singleton] at hy; subst hy; rfl) | with_reducible rfl | skip
        all_goals (exact ⟨⟨true, rfl⟩, rfl⟩)
      obtain ⟨kid, rfl⟩ : ∃ kid : Nat, kd = kid := ⟨kd.toNat, by omega⟩
      have f6 : (kid : Int) < l.length := by omega
      have f7 : (0 : Int) ≤ kid := by omega
      have f8 : kid < D.length := by omega
      have hDk : D[kid]? = some D[kid] := List.getElem?_eq_getElem f8
      have hdk := hD D[kid] (List.getElem_mem f8)
      generalize D[i] = di at hDi hdi
      generalize D[kid] = dk at hDk hdk
      repeat' (first
  | refine gSq ?_ | refine gSk ?_ | refine gBl ?_ | refine gIb ?_ | refine gEx rfl ?_
  | ((first
  | (refine gRg [] [0, 2, 3, 4, 5, 6, 8, 12, 13, 14, 15, 20, 21, 22, 23, 32, 48, 61] ?_; intro K hK)
  | (refine gDr 11 [] 12 [0, 1, 2, 3, 4, 5, 6, 7, 8, 9, 10, 11, 12] [0, 2, 3, 4, 5, 6, 8, 12, 13, 14, 15, 20, 21, 22, 23, 32, 48, 61] rfl ?_; intro K hK)
  | (refine gd_split ?_ ?_ <;> intro hb <;> (try simp only [bls] at hb) <;> (try simp only [hb]))
  | refine gRt [] [.tmp 2] rfl ?_ | refine gDn [] [.tmp 2] rfl ?_) <;> (try simp only [go_sem, simprocAttr, e4, e5, e6, f4, f5, f6, f7, f8, hneg, hgt, hx2, hDi, hDk, Option.some.injEq, forall_eq']))
  | (refine hK _ _ ?_; clear hK K; simp only [go_sem, simprocAttr])
  | refine gCd (by simp only [go_sem, simprocAttr]; rfl) rfl ?_
  | refine brT ?_ | refine brF ?_
  | (refine brS ?_ ?_ <;> intro hc <;> (try simp only [bls] at hc) <;> (try simp only [hc, bls]))
  | intro _ | refine And.intro ?_ ?_)
      all_goals first | omega | (unfold bigLen; omega) | exact ⟨_, _, ⟨rfl, rfl⟩, rfl⟩ | exact ⟨_, rfl⟩ | (rename_i hy; simp only [List.mem_singleton] at hy; subst hy; rfl) | with_reducible rfl | skip
      rename_i z hz
      have hz2 : z = [.int .i64 di] := by rw [List.getElem?_map, hDi] at hz; exact (Option.some.inj hz).symm
      subst hz2
      refine AGood.filt [6, 11] ?_
      simp only [sf_cons, sf_nil, go_sem, simprocAttr]
      refine AGood.prune [2, 3, 4, 5, 6, 12, 13, 14, 20, 21, 22] ?_; simp only [go_sem, simprocAttr]
      exact AGood.cast (ih2 (j + 1, D.set i (max di dk)) ⟨by simp only; omega, by simp [hDl], set_in hD (maxI hdi hdk)⟩ (by simp only; omega)) rfl (by simp [List.map_set])
    · have f4 : ¬ (j : Int) < xl.length := by omega
      clear ih2
      generalize D[i] = di at hDi hdi
      have hin : di + 1 ≤ 5 := by omega
      have e8 : (many : Int) + 1 = ((many + 1 : Nat) : Int) := by omega
      by_cases h5 : xo = 5
      · have hDs : (D.set i (di + 1))[i]? = some (di + 1) := by rw [List.getElem?_set_self e6]
        have hrs : (ints D).set i [.int .i64 (di + 1)] = ints (D.set i (di + 1)) := by simp [List.map_set]
        have e9 : i < (D.set i (di + 1)).length := by simpa using e6
        by_cases h2 : 4 < di + 1
        · repeat' (first
  | (refine AGood.at 16 ?_; (refine stopI ?_))
  | refine gSq ?_ | refine gSk ?_ | refine gBl ?_ | refine gIb ?_ | refine gEx rfl ?_
  | ((first
  | (refine gRg [] [0, 2, 3, 4, 5, 6, 8, 12, 13, 14, 15, 20, 21, 22, 23, 32, 48, 61] ?_; intro K hK)
  | (refine gDr 11 [] 12 [0, 1, 2, 3, 4, 5, 6, 7, 8, 9, 10, 11, 12] [0, 2, 3, 4, 5, 6, 8, 12, 13, 14, 15, 20, 21, 22, 23, 32, 48, 61] rfl ?_; intro K hK)
  | (refine gd_split ?_ ?_ <;> intro hb <;> (try simp only [bls] at hb) <;> (try simp only [hb]))
  | refine gRt [] [.tmp 2] rfl ?_ | refine gDn [] [.tmp 2] rfl ?_) <;> (try simp only [go_sem, simprocAttr, e4, e5, e6, e8, e9, f4, eq_true h5, h2, hDi, hDs, Option.some.injEq, forall_eq']))
  | (refine hK _ _ ?_; clear hK K; simp only [go_sem, simprocAttr])
  | refine gCd (by simp only [go_sem, simprocAttr]; rfl) rfl ?_
  | refine brT ?_ | refine brF ?_
  | (refine brS ?_ ?_ <;> intro hc <;> (try simp only [bls] at hc) <;> (try simp only [hc, bls]))
  | intro _ | refine And.intro ?_ ?_)
          all_goals first | omega | (unfold bigLen; omega) | exact ⟨_, _, ⟨rfl, rfl⟩, rfl⟩ | exact ⟨_, rfl⟩ | (rename_i hy; simp only [List.mem_singleton] at hy; subst hy; rfl) | with_reducible rfl | skip
          rename_i z hz
          have hz2 : z = [.int .i64 di] := by rw [List.getElem?_map, hDi] at hz; exact (Option.some.inj hz).symm
          subst hz2
          refine stopE ?_
          refine AGood.reRow 11 (ints (D.set i (di + 1))) rfl (by rw [← hrs]; rfl) ?_
          simp only [go_sem, simprocAttr]
          repeat' (first
  | refine gSq ?_ | refine gSk ?_ | refine gBl ?_ | refine gIb ?_ | refine gEx rfl ?_
  | ((first
  | (refine gRg [] [0, 2, 3, 4, 5, 6, 8, 12, 13, 14, 15, 20, 21, 22, 23, 32, 48, 61] ?_; intro K hK)
  | (refine gDr 11 [] 12 [0, 1, 2, 3, 4, 5, 6, 7, 8, 9, 10, 11, 12] [0, 2, 3, 4, 5, 6, 8, 12, 13, 14, 15, 20, 21, 22, 23, 32, 48, 61] rfl ?_; intro K hK)
  | (refine gd_split ?_ ?_ <;> intro hb <;> (try simp only [bls] at hb) <;> (try simp only [hb]))
  | refine gRt [] [.tmp 2] rfl ?_ | refine gDn [] [.tmp 2] rfl ?_) <;> (try simp only [go_sem, simprocAttr, e4, e5, e6, e8, e9, f4, eq_true h5, h2, hDi, hDs, Option.some.injEq, forall_eq']))
  | (refine hK _ _ ?_; clear hK K; simp only [go_sem, simprocAttr])
  | refine gCd (by simp only [go_sem, simprocAttr]; rfl) rfl ?_
  | refine brT ?_ | refine brF ?_
  | (refine brS ?_ ?_ <;> intro hc <;> (try simp only [bls] at hc) <;> (try simp only [hc, bls]))
  | intro _ | refine And.intro ?_ ?_)
          all_goals first | omega | (unfold bigLen; omega) | exact ⟨_, _, ⟨rfl, rfl⟩, rfl⟩ | exact ⟨_, rfl⟩ | (rename_i hy; simp only [List.mem_singleton] at hy; subst hy; rfl) | with_reducible rfl | skip
        · repeat' (first
  | (refine AGood.at 16 ?_; (refine stopI ?_))
  | refine gSq ?_ | refine gSk ?_ | refine gBl ?_ | refine gIb ?_ | refine gEx rfl ?_
  | ((first
  | (refine gRg [] [0, 2, 3, 4, 5, 6, 8, 12, 13, 14, 15, 20, 21, 22, 23, 32, 48, 61] ?_; intro K hK)
  | (refine gDr 11 [] 12 [0, 1, 2, 3, 4, 5, 6, 7, 8, 9, 10, 11, 12] [0, 2, 3, 4, 5, 6, 8, 12, 13, 14, 15, 20, 21, 22, 23, 32, 48, 61] rfl ?_; intro K hK)
  | (refine gd_split ?_ ?_ <;> intro hb <;> (try simp only [bls] at hb) <;> (try simp only [hb]))
  | refine gRt [] [.tmp 2] rfl ?_ | refine gDn [] [.tmp 2] rfl ?_) <;> (try simp only [go_sem, simprocAttr, e4, e5, e6, e8, e9, f4, eq_true h5, h2, hDi, hDs, Option.some.injEq, forall_eq']))
  | (refine hK _ _ ?_; clear hK K; simp only [go_sem, simprocAttr])
  | refine gCd (by simp only [go_sem, simprocAttr]; rfl) rfl ?_
  | refine brT ?_ | refine brF ?_
  | (refine brS ?_ ?_ <;> intro hc <;> (try simp only [bls] at hc) <;> (try simp only [hc, bls]))
  | intro _ | refine And.intro ?_ ?_)
          all_goals first | omega | (unfold bigLen; omega) | exact ⟨_, _, ⟨rfl, rfl⟩, rfl⟩ | exact ⟨_, rfl⟩ | (rename_i hy; simp only [List.mem_singleton] at hy; subst hy; rfl) | with_reducible rfl | skip
          rename_i z hz
          have hz2 : z = [.int .i64 di] := by rw [List.getElem?_map, hDi] at hz; exact (Option.some.inj hz).symm
          subst hz2
          refine stopE ?_
          refine AGood.reRow 11 (ints (D.set i (di + 1))) rfl (by rw [← hrs]; rfl) ?_
          simp only [go_sem, simprocAttr]
          repeat' (first
  | refine gSq ?_ | refine gSk ?_ | refine gBl ?_ | refine gIb ?_ | refine gEx rfl ?_
  | ((first
  | (refine gRg [] [0, 2, 3, 4, 5, 6, 8, 12, 13, 14, 15, 20, 21, 22, 23, 32, 48, 61] ?_; intro K hK)
  | (refine gDr 11 [] 12 [0, 1, 2, 3, 4, 5, 6, 7, 8, 9, 10, 11, 12] [0, 2, 3, 4, 5, 6, 8, 12, 13, 14, 15, 20, 21, 22, 23, 32, 48, 61] rfl ?_; intro K hK)
  | (refine gd_split ?_ ?_ <;> intro hb <;> (try simp only [bls] at hb) <;> (try simp only [hb]))
  | refine gRt [] [.tmp 2] rfl ?_ | refine gDn [] [.tmp 2] rfl ?_) <;> (try simp only [go_sem, simprocAttr, e4, e5, e6, e8, e9, f4, eq_true h5, h2, hDi, hDs, Option.some.injEq, forall_eq']))
  | (refine hK _ _ ?_; clear hK K; simp only [go_sem, simprocAttr])
  | refine gCd (by simp only [go_sem, simprocAttr]; rfl) rfl ?_
  | refine brT ?_ | refine brF ?_
  | (refine brS ?_ ?_ <;> intro hc <;> (try simp only [bls] at hc) <;> (try simp only [hc, bls]))
  | intro _ | refine And.intro ?_ ?_)
          all_goals first | omega | (unfold bigLen; omega) | exact ⟨_, _, ⟨rfl, rfl⟩, rfl⟩ | exact ⟨_, rfl⟩ | (rename_i hy; simp only [List.mem_singleton] at hy; subst hy; rfl) | with_reducible rfl | skip
          all_goals (try exact ⟨⟨false, rfl⟩, rfl⟩)
          all_goals
            refine AGood.filt [11] ?_
            simp only [sf_cons, sf_nil, go_sem, simprocAttr]
            refine AGood.prune [2, 3, 4, 12, 13, 14] ?_; simp only [go_sem, simprocAttr]
            exact (ih (i + 1, D.set i (di + 1), many + 1) ⟨by simp only; omega, by simp [hDl], set_in hD (by omega), by simp only; omega⟩ (by simp only; omega)).cast rfl rfl
      · have h2 : ¬ 4 < di := by omega
        repeat' (first
  | refine gSq ?_ | refine gSk ?_ | refine gBl ?_ | refine gIb ?_ | refine gEx rfl ?_
  | ((first
  | (refine gRg [] [0, 2, 3, 4, 5, 6, 8, 12, 13, 14, 15, 20, 21, 22, 23, 32, 48, 61] ?_; intro K hK)
  | (refine gDr 11 [] 12 [0, 1, 2, 3, 4, 5, 6, 7, 8, 9, 10, 11, 12] [0, 2, 3, 4, 5, 6, 8, 12, 13, 14, 15, 20, 21, 22, 23, 32, 48, 61] rfl ?_; intro K hK)
  | (refine gd_split ?_ ?_ <;> intro hb <;> (try simp only [bls] at hb) <;> (try simp only [hb]))
  | refine gRt [] [.tmp 2] rfl ?_ | refine gDn [] [.tmp 2] rfl ?_) <;> (try simp only [go_sem, simprocAttr, e4, e5, e6, f4, h5, h2, hDi, Option.some.injEq, forall_eq']))
  | (refine hK _ _ ?_; clear hK K; simp only [go_sem, simprocAttr])
  | refine gCd (by simp only [go_sem, simprocAttr]; rfl) rfl ?_
  | refine brT ?_ | refine brF ?_
  | (refine brS ?_ ?_ <;> intro hc <;> (try simp only [bls] at hc) <;> (try simp only [hc, bls]))
  | intro _ | refine And.intro ?_ ?_)
        all_goals first | omega | (unfold bigLen; omega) | exact ⟨_, _, ⟨rfl, rfl⟩, rfl⟩ | exact ⟨_, rfl⟩ | (rename_i hy; simp only [List.mem_singleton] at hy; subst hy; rfl) | with_reducible rfl | skip
        all_goals (try exact ⟨⟨false, rfl⟩, rfl⟩)
        all_goals
          refine AGood.filt [11] ?_
          simp only [sf_cons, sf_nil, go_sem, simprocAttr]
          refine AGood.prune [2, 3, 4, 12, 13, 14] ?_; simp only [go_sem, simprocAttr]
          exact (ih (i + 1, D, many) ⟨by simp only; omega, hDl, hD, by simp only; omega⟩ (by simp only; omega)).cast rfl rfl
  · have e4 : ¬ (i : Int) < l.length := by omega
    clear ih
    repeat' (first
  | refine gSq ?_ | refine gSk ?_ | refine gBl ?_ | refine gIb ?_ | refine gEx rfl ?_
  | ((first
  | (refine gRg [] [0, 2, 3, 4, 5, 6, 8, 12, 13, 14, 15, 20, 21, 22, 23, 32, 48, 61] ?_; intro K hK)
  | (refine gDr 11 [] 12 [0, 1, 2, 3, 4, 5, 6, 7, 8, 9, 10, 11, 12] [0, 2, 3, 4, 5, 6, 8, 12, 13, 14, 15, 20, 21, 22, 23, 32, 48, 61] rfl ?_; intro K hK)
  | (refine gd_split ?_ ?_ <;> intro hb <;> (try simp only [bls] at hb) <;> (try simp only [hb]))
  | refine gRt [] [.tmp 2] rfl ?_ | refine gDn [] [.tmp 2] rfl ?_) <;> (try simp only [go_sem, simprocAttr, e4]))
  | (refine hK _ _ ?_; clear hK K; simp only [go_sem, simprocAttr])
  | refine gCd (by simp only [go_sem, simprocAttr]; rfl) rfl ?_
  | refine brT ?_ | refine brF ?_
  | (refine brS ?_ ?_ <;> intro hc <;> (try simp only [bls] at hc) <;> (try simp only [hc, bls]))
  | intro _ | refine And.intro ?_ ?_)
    all_goals first | omega | (unfold bigLen; omega) | exact ⟨_, _, ⟨rfl, rfl⟩, rfl⟩ | exact ⟨_, rfl⟩ | (rename_i hy; simp only [List.mem_singleton] at hy; subst hy; rfl) | with_reducible rfl | skip
theorem ints7uc (q f q' f' : Bool) (a b : List Int) (ha : a.length ≤ 100000000) : ACall Try.prog 14 [.sl q f (ints a), .sl q' f' (ints b)] [] fun r s => r = .bool (decide (a = b)) ∧ s = [] := by
  refine ACall.enter Try.func14 rfl (by kernel_rfl) (Nat.le_of_ble_eq_true rfl) ?_; simp only [initTm, Nat.reduceAdd]
  repeat' (first
  | refine gSq ?_ | refine gSk ?_ | refine gBl ?_ | refine gIb ?_ | refine gEx rfl ?_
  | ((first
  | (refine gRg [] [0, 1, 4, 5, 10, 12, 13, 14, 24] ?_; intro K hK)
  | (refine gDr 6 [] 9 [0, 1, 2, 3, 4, 5, 6, 7, 8] [0, 1, 4, 5, 10, 12, 13, 14, 24] rfl ?_; intro K hK)
  | (refine gd_split ?_ ?_ <;> intro hb <;> (try simp only [bls] at hb) <;> (try simp only [hb]))
  | refine gRt [] [.tmp 4] rfl ?_ | refine gDn [] [.tmp 4] rfl ?_) <;> (try simp only [go_sem, simprocAttr]))
  | (refine hK _ _ ?_; clear hK K; simp only [go_sem, simprocAttr])
  | refine gCd (by simp only [go_sem, simprocAttr]; rfl) rfl ?_
  | refine brT ?_ | refine brF ?_
  | (refine brS ?_ ?_ <;> intro hc <;> (try simp only [bls] at hc) <;> (try simp only [hc, bls]))
  | intro _ | refine And.intro ?_ ?_)
  · exact congrArg AVal.bool (by simp only [Bool.false_eq, decide_eq_false_iff_not]; rintro rfl; exact hc rfl)
  have hab : a.length = b.length := by omega
  refine AGood.prune [0, 1, 4, 12, 13] ?_; simp only [go_sem, simprocAttr]
  refine AGood.loopInv (α := Nat) (fun i => ([(0, .sl q f (ints a)), (1, .sl q' f' (ints b)), (4, .bool false), (12, .int .i64 a.length), (13, .int .i64 i)], [])) (fun i => i ≤ a.length ∧ a.take i = b.take i) (fun i => a.length - i) 0 ⟨Nat.zero_le _, rfl⟩ rfl ?_
  rintro i ⟨hi, htk⟩ ih
  simp only
  by_cases hle : i < a.length
  · have e4 : (i : Int) < a.length := by omega
    have e6 : (0 : Int) ≤ i := by omega
    have e7 : (i : Int) < b.length := by omega
    have e8 : (i : Int) + 1 = ((i + 1 : Nat) : Int) := by omega
    have hx : a[i]? = some a[i] := List.getElem?_eq_getElem hle
    have hy : b[i]? = some b[i] := List.getElem?_eq_getElem (by omega)
    generalize a[i] = x at hx
    generalize b[i] = y at hy
    by_cases hxy : x = y
    · subst hxy
      repeat' (first
  | refine gSq ?_ | refine gSk ?_ | refine gBl ?_ | refine gIb ?_ | refine gEx rfl ?_
  | ((first
  | (refine gRg [] [0, 1, 4, 5, 10, 12, 13, 14, 24] ?_; intro K hK)
  | (refine gDr 6 [] 9 [0, 1, 2, 3, 4, 5, 6, 7, 8] [0, 1, 4, 5, 10, 12, 13, 14, 24] rfl ?_; intro K hK)
  | (refine gd_split ?_ ?_ <;> intro hb <;> (try simp only [bls] at hb) <;> (try simp only [hb]))
  | refine gRt [] [.tmp 4] rfl ?_ | refine gDn [] [.tmp 4] rfl ?_) <;> (try simp only [go_sem, simprocAttr, e4, e6, e7, e8, hx, hy, Option.some.injEq, forall_eq']))
  | (refine hK _ _ ?_; clear hK K; simp only [go_sem, simprocAttr])
  | refine gCd (by simp only [go_sem, simprocAttr]; rfl) rfl ?_
  | refine brT ?_ | refine brF ?_
  | (refine brS ?_ ?_ <;> intro hc <;> (try simp only [bls] at hc) <;> (try simp only [hc, bls]))
  | intro _ | refine And.intro ?_ ?_)
      all_goals first | omega | (unfold bigLen; omega) | exact ⟨_, _, ⟨rfl, rfl⟩, rfl⟩ | exact ⟨_, rfl⟩ | (rename_i hy; simp only [List.mem_singleton] at hy; subst hy; rfl) | with_reducible rfl | skip
      refine AGood.prune [0, 1, 4, 12, 13] ?_; simp only [go_sem, simprocAttr]
      exact (ih (i + 1) ⟨by omega, by rw [take_one hx, take_one hy, htk]⟩ (by omega)).cast rfl rfl
    · repeat' (first
  | refine gSq ?_ | refine gSk ?_ | refine gBl ?_ | refine gIb ?_ | refine gEx rfl ?_
  | ((first
  | (refine gRg [] [0, 1, 4, 5, 10, 12, 13, 14, 24] ?_; intro K hK)
  | (refine gDr 6 [] 9 [0, 1, 2, 3, 4, 5, 6, 7, 8] [0, 1, 4, 5, 10, 12, 13, 14, 24] rfl ?_; intro K hK)
  | (refine gd_split ?_ ?_ <;> intro hb <;> (try simp only [bls] at hb) <;> (try simp only [hb]))
  | refine gRt [] [.tmp 4] rfl ?_ | refine gDn [] [.tmp 4] rfl ?_) <;> (try simp only [go_sem, simprocAttr, e4, e6, e7, e8, hx, hy, hxy, Option.some.injEq, forall_eq']))
  | (refine hK _ _ ?_; clear hK K; simp only [go_sem, simprocAttr])
  | refine gCd (by simp only [go_sem, simprocAttr]; rfl) rfl ?_
  | refine brT ?_ | refine brF ?_
  | (refine brS ?_ ?_ <;> intro hc <;> (try simp only [bls] at hc) <;> (try simp only [hc, bls]))
  | intro _ | refine And.intro ?_ ?_)
      refine congrArg AVal.bool ?_
      simp only [Bool.false_eq, decide_eq_false_iff_not]
      rintro rfl
      rw [hx] at hy; exact hxy (Option.some.inj hy)
  · rw [List.take_of_length_le (by omega), List.take_of_length_le (by omega)] at htk
    have e4 : ¬ (i : Int) < a.length := by omega
    repeat' (first
  | refine gSq ?_ | refine gSk ?_ | refine gBl ?_ | refine gIb ?_ | refine gEx rfl ?_
  | ((first
  | (refine gRg [] [0, 1, 4, 5, 10, 12, 13, 14, 24] ?_; intro K hK)
  | (refine gDr 6 [] 9 [0, 1, 2, 3, 4, 5, 6, 7, 8] [0, 1, 4, 5, 10, 12, 13, 14, 24] rfl ?_; intro K hK)
  | (refine gd_split ?_ ?_ <;> intro hb <;> (try simp only [bls] at hb) <;> (try simp only [hb]))
  | refine gRt [] [.tmp 4] rfl ?_ | refine gDn [] [.tmp 4] rfl ?_) <;> (try simp only [go_sem, simprocAttr, e4]))
  | (refine hK _ _ ?_; clear hK K; simp only [go_sem, simprocAttr])
  | refine gCd (by simp only [go_sem, simprocAttr]; rfl) rfl ?_
  | refine brT ?_ | refine brF ?_
  | (refine brS ?_ ?_ <;> intro hc <;> (try simp only [bls] at hc) <;> (try simp only [hc, bls]))
  | intro _ | refine And.intro ?_ ?_)
    simp [htk]
theorem few7uc (l : List Node) (hl : l.length ≤ maxLen) : ACall Try.prog 18 [.sl true false (nodes l)] [] fun r s => r = .sl true false (nodes (l.take 60)) ∧ s = [] := by
  unfold maxLen at hl
  by_cases h : l.length ≤ 60
  · have e1 : min (l.length : Int) 60 = l.length := by omega
    have e2 : (nodes l).take l.length = nodes (l.take 60) := by rw [List.take_of_length_le (by simp), List.take_of_length_le (by omega)]
    have e3 : (0 : Int) ≤ l.length := by omega
    refine ACall.enter Try.func18 rfl (by kernel_rfl) (Nat.le_of_ble_eq_true rfl) ?_; simp only [initTm, Nat.reduceAdd]
    repeat' (first
  | refine gSq ?_ | refine gSk ?_ | refine gBl ?_ | refine gIb ?_ | refine gEx rfl ?_
  | ((first
  | (refine gRg [] [0, 2] ?_; intro K hK)
  | (refine gd_split ?_ ?_ <;> intro hb <;> (try simp only [bls] at hb) <;> (try simp only [hb]))
  | refine gRt [] [.tmp 2] rfl ?_ | refine gDn [] [.tmp 2] rfl ?_) <;> (try simp only [go_sem, simprocAttr, e1, e2, e3, slFull, intArg, Bool.false_and]))
  | (refine hK _ _ ?_; clear hK K; simp only [go_sem, simprocAttr])
  | refine gCd (by simp only [go_sem, simprocAttr]; rfl) rfl ?_
  | refine brT ?_ | refine brF ?_
  | (refine brS ?_ ?_ <;> intro hc <;> (try simp only [bls] at hc) <;> (try simp only [hc, bls]))
  | intro _ | refine And.intro ?_ ?_)
    all_goals first | omega | (unfold bigLen; omega) | exact ⟨_, _, ⟨rfl, rfl⟩, rfl⟩ | exact ⟨_, rfl⟩ | (rename_i hy; simp only [List.mem_singleton] at hy; subst hy; rfl) | with_reducible rfl | skip
    all_goals exact .inl trivial
  · have e1 : min (l.length : Int) 60 = 60 := by omega
    have e2 : (nodes l).take 60 = nodes (l.take 60) := by simp
    have e3 : 60 ≤ l.length := by omega
    refine ACall.enter Try.func18 rfl (by kernel_rfl) (Nat.le_of_ble_eq_true rfl) ?_; simp only [initTm, Nat.reduceAdd]
    repeat' (first
  | refine gSq ?_ | refine gSk ?_ | refine gBl ?_ | refine gIb ?_ | refine gEx rfl ?_
  | ((first
  | (refine gRg [] [0, 2] ?_; intro K hK)
  | (refine gd_split ?_ ?_ <;> intro hb <;> (try simp only [bls] at hb) <;> (try simp only [hb]))
  | refine gRt [] [.tmp 2] rfl ?_ | refine gDn [] [.tmp 2] rfl ?_) <;> (try simp only [go_sem, simprocAttr, e1, e2, e3, slFull, intArg, Bool.false_and]))
  | (refine hK _ _ ?_; clear hK K; simp only [go_sem, simprocAttr])
  | refine gCd (by simp only [go_sem, simprocAttr]; rfl) rfl ?_
  | refine brT ?_ | refine brF ?_
  | (refine brS ?_ ?_ <;> intro hc <;> (try simp only [bls] at hc) <;> (try simp only [hc, bls]))
  | intro _ | refine And.intro ?_ ?_)
    all_goals first | omega | (unfold bigLen; omega) | exact ⟨_, _, ⟨rfl, rfl⟩, rfl⟩ | exact ⟨_, rfl⟩ | (rename_i hy; simp only [List.mem_singleton] at hy; subst hy; rfl) | with_reducible rfl | skip
    all_goals exact .inl trivial
theorem text7uc (w : ByteArray) (hw : w.size ≤ maxLen) : ACall Try.prog 11 [.str w] [] fun r s => r = .str (w.extract 0 (min w.size 20)) ∧ s = [] := by
  unfold maxLen at hw
  obtain ⟨k, hk⟩ : ∃ k : Nat, k = min w.size 20 := ⟨_, rfl⟩
  have c2 : min (w.size : Int) 20 = (k : Int) := by omega
  have c3 : (0 : Int) ≤ k := by omega
  have c4 : k ≤ w.size := by omega
  rw [← hk]
  obtain ⟨t, ht0⟩ : ∃ t, w.extract 0 k = t := ⟨_, rfl⟩
  rw [ht0]
  refine ACall.enter Try.func11 rfl (by kernel_rfl) (Nat.le_of_ble_eq_true rfl) ?_; simp only [initTm, Nat.reduceAdd]
  repeat' (first
  | refine gSq ?_ | refine gSk ?_ | refine gBl ?_ | refine gIb ?_ | refine gEx rfl ?_
  | ((first
  | (refine gRg [] [0, 2] ?_; intro K hK)
  | (refine gd_split ?_ ?_ <;> intro hb <;> (try simp only [bls] at hb) <;> (try simp only [hb]))
  | refine gRt [] [.tmp 2] rfl ?_ | refine gDn [] [.tmp 2] rfl ?_) <;> (try simp only [go_sem, simprocAttr, c2, c3, c4, ht0]))
  | (refine hK _ _ ?_; clear hK K; simp only [go_sem, simprocAttr])
  | refine gCd (by simp only [go_sem, simprocAttr]; rfl) rfl ?_
  | refine brT ?_ | refine brF ?_
  | (refine brS ?_ ?_ <;> intro hc <;> (try simp only [bls] at hc) <;> (try simp only [hc, bls]))
  | intro _ | refine And.intro ?_ ?_)
  all_goals first | omega | (unfold bigLen; omega) | exact ⟨_, _, ⟨rfl, rfl⟩, rfl⟩ | exact ⟨_, rfl⟩ | (rename_i hy; simp only [List.mem_singleton] at hy; subst hy; rfl) | with_reducible rfl | skip
abbrev fA7 : Fo := .node ⟨5, ISet.none, 1, 2, ByteArray.empty⟩ (.node ⟨2, ⟨0, 8589934592, 0, 0⟩, 0, 0, ByteArray.empty⟩ .nil .nil) .nil
abbrev fB7 : Fo := .node ⟨5, ISet.none, 0, -1, ByteArray.empty⟩ (.node ⟨3, ISet.none, 0, 0, ByteArray.empty⟩ (.node ⟨2, ⟨0, 8589934592, 0, 0⟩, 0, 0, ByteArray.empty⟩ .nil (.node ⟨2, ⟨0, 17179869184, 0, 0⟩, 0, 0, ByteArray.empty⟩ .nil .nil)) .nil) .nil
theorem p7a : ACall Try.prog 27 [.str ⟨#[97, 123, 49, 44, 50, 125]⟩] [] fun r s => r = .tup [.sl true false (nodes (fA7.lay 0)), .int .i64 0, .int .i64 0] ∧ s = [] := parse_run (by kernel_rfl)
theorem p7b : ACall Try.prog 27 [.str ⟨#[40, 97, 98, 41, 42]⟩] [] fun r s => r = .tup [.sl true false (nodes (fB7.lay 0)), .int .i64 0, .int .i64 0] ∧ s = [] := parse_run (by kernel_rfl)
theorem words_ok {l : List Node} (h : l.all (fun n => decide (0 ≤ n.s.a) && decide (0 ≤ n.s.b) && decide (0 ≤ n.s.c) && decide (0 ≤ n.s.d)) = true) : ∀ n ∈ l, ∀ k, 0 ≤ n.s.word k := by
  intro n hn k
  have := List.all_eq_true.1 h n hn
  simp only [Bool.and_eq_true, decide_eq_true_eq] at this
  unfold ISet.word
  split <;> omega
theorem s7a : posS (semT ⟨#[97, 97, 97]⟩ fA7 (pointB 4 0)) = [1, 2] := by decide +kernel
theorem s7b : longS (posS (semT ⟨#[97, 98, 97, 98, 97]⟩ fB7 (pointB 6 0))) 0 = (4, true) := by decide +kernel
theorem shown7uc : ACall Try.prog 10 [] [] fun r s => r = .bool true ∧ s = [] := by
  have hA := endsTop_c (w := ⟨#[97, 97, 97]⟩) (by decide +kernel) false fA7 rfl (by decide +kernel) (by decide +kernel) (by decide +kernel) (words_ok (by decide +kernel)) 0 (Nat.zero_le _)
  have hB := endsTop_c (w := ⟨#[97, 98, 97, 98, 97]⟩) (by decide +kernel) false fB7 rfl (by decide +kernel) (by decide +kernel) (by decide +kernel) (words_ok (by decide +kernel)) 0 (Nat.zero_le _)
  have hL := longest_c hB (by decide +kernel) (by decide +kernel)
  have s1 := s7a
  have s2 := s7b
  rw [show (ByteArray.mk #[97, 97, 97]).size + 1 = 4 from rfl, s1] at hA
  rw [show (ByteArray.mk #[97, 98, 97, 98, 97]).size + 1 = 6 from rfl] at hL
  have hL2 := hL.mono (R' := fun r s => r = .tup [.int .i64 4, .bool true] ∧ s = []) (fun r s h => by
    have := congrArg Prod.fst s2
    have := congrArg Prod.snd s2
    simp only at *
    simp_all)
  have ha := p7a
  have hb := p7b
  have hi := fun q f => ints7uc true false q f [1, 2] [1, 2] (by decide)
  rw [decide_eq_true rfl] at hi
  generalize nodes (fA7.lay 0) = A at ha hA
  generalize nodes (fB7.lay 0) = B at hb hL2
  clear hB hL
  refine ACall.enter Try.func10 rfl (by kernel_rfl) (Nat.le_of_ble_eq_true rfl) ?_; simp only [initTm, Nat.reduceAdd]
  repeat' (first
  | refine gSq ?_ | refine gSk ?_ | refine gBl ?_ | refine gIb ?_ | refine gEx rfl ?_
  | ((first
  | (refine gRg [26] [0, 1, 4, 7, 8] ?_; intro K hK)
  | refine cAl (ha) rfl rfl rfl ?_
  | refine cAl (hb) rfl rfl rfl ?_
  | refine cAl (hL2) rfl rfl rfl ?_
  | refine cAl (hA) rfl rfl rfl ?_
  | refine cAl (hi _ _) rfl rfl rfl ?_
  | (refine gd_split ?_ ?_ <;> intro hb <;> (try simp only [bls] at hb) <;> (try simp only [hb]))
  | refine gRt [] [.tmp 0] rfl ?_ | refine gDn [] [.tmp 0] rfl ?_) <;> (try simp only [go_sem, simprocAttr]))
  | (refine hK _ _ ?_; clear hK K; simp only [go_sem, simprocAttr])
  | refine gCd (by simp only [go_sem, simprocAttr]; rfl) rfl ?_
  | refine brT ?_ | refine brF ?_
  | (refine brS ?_ ?_ <;> intro hc <;> (try simp only [bls] at hc) <;> (try simp only [hc, bls]))
  | intro _ | refine And.intro ?_ ?_)
  all_goals first | omega | (unfold bigLen; omega) | exact ⟨_, _, ⟨rfl, rfl⟩, rfl⟩ | exact ⟨_, rfl⟩ | (rename_i hy; simp only [List.mem_singleton] at hy; subst hy; rfl) | with_reducible rfl | skip
end Go.Rad
/- From a contract to a given row: the arguments are frozen, as whatever they hold. -/
namespace Go.Rad
open Go Go.ChangeShapes Go.RowKit Go.Deep
variable {P : Program} {L : Lay}

/-- The ghost at a call: all that there is lies still. -/
def baseG (W : World) : Gh := { F := fun b => W.heap[b]?, S := fun _ => True, L := fun _ => False, M := fun _ _ => none, N := 0, W0 := W }

/-- The package variables that are known lie there. -/
def GlobIn (W : World) : Prop := ∀ (g : Nat) (l : List Int), globU8 g = some l → Rep (baseG W) true (.ref true (globC l)) (.pointer (some ⟨g, 0, none⟩))
theorem baseG_wok {W : World} (hT : GlobIn W) : WOk (baseG W) W := ⟨.refl W, fun _ _ h => h, fun _ _ _ _ h => by simp [baseG] at h, fun _ _ _ => rfl, hT⟩
theorem sto_nil {G : Gh} {w : World} : StoOk G w [] := ⟨fun _ _ _ h => by simp [sget] at h, fun _ _ _ _ _ _ h => by simp [sget] at h⟩

theorem base_grown {W W' : World} {G : Gh} (hx : Ext (baseG W) G) (hw : WOk G W') : W.keptBut W' (fun _ => False) ∧ ∀ a : Addr, a.block < W.heap.size → W'.frozen? a = W.frozen? a := by
  have hold : ∀ i, i < W.heap.size → W'.heap[i]? = W.heap[i]? := by
    intro i hi
    have h1 : (baseG W).F i = some W.heap[i] := Array.getElem?_eq_getElem hi
    rw [hw.F i _ (hx.F i _ h1), Array.getElem?_eq_getElem hi]
  have hk : Kept W W' := by have := hw.K; rw [hx.W0] at this; exact this
  refine ⟨⟨hk.os, hk.out, fun i hi => ?_⟩, fun a ha => ?_⟩
  · rw [hold i hi]
    cases W.heap[i]? with
    | none => rfl
    | some o => cases o <;> simp
  · simp only [World.frozen?, hold _ ha]

/-- What is told where the arguments lie as they lay, and nothing of them was shut: of what is new nothing is asked. -/
theorem post_old {H : Type} {enc : TypeId × Value → H} {f : Func} {s : ChangeSpec} {apart fresh handsOn again : Bool} {W W' : World} {args : Array Value} {v : Value} {ds gs : List (DataW H)} {before pa pv : List MemPlace}
    (hW : DataW.Whole enc P f.params.toList s.vars apart W args.toList ds gs before)
    (hres : ∀ (b : Nat) (sp : Nat → Bool) (hd : Bool), DataW.TrodAll enc P W' b sp hd f.resultTypes.toList (v.resultList f.resultTypes.size) (s.fn H (ds ++ gs)).results [])
    (hargs : ∀ sp : Nat → Bool, (∀ p ∈ before, sp p.block = true) → DataW.TrodAll enc P W' 0 sp true f.params.toList args.toList (s.fn H (ds ++ gs)).args pa)
    (hvars : ∀ sp : Nat → Bool, (∀ p ∈ before, sp p.block = true) → DataW.TrodVars enc P W' sp s.vars (s.fn H (ds ++ gs)).vars pv)
    (hps : before = pa ++ pv) (hk : W.keptBut W' (· ∈ before)) (hfz : ∀ a : Addr, a.block < W.heap.size → W'.frozen? a = W.frozen? a)
    (hok : ∀ (j : Nat) (t : TypeId) (r : Value), f.resultTypes[j]? = some t → (v.resultList f.resultTypes.size)[j]? = some r → Value.okWide P W' .any 0 t r) :
    s.post enc P f apart fresh handsOn again W args v W' := by
  have hall : ∀ p ∈ before, p.block < W.heap.size := fun p hp => hW.lt p hp
  have hin : ∀ p ∈ before, (fun b => decide (b < W.heap.size)) p.block = true := fun p hp => decide_eq_true (hall p hp)
  have hmem : ∀ p, p ∈ ([] ++ pa) ++ pv → p ∈ before := fun p hp => by rw [hps]; exact hp
  refine ⟨ds, gs, before, [], pa, pv, hW, hres _ _ _, hargs _ hin, hvars _ hin, World.keptBut_mono (fun p hp => ⟨hp, ?_⟩) hk, fun _ => ?_⟩
  · rw [hps] at hp
    exact .inr (List.mem_append.1 hp)
  · obtain ⟨_, _, _, _, _, hz, hn⟩ := hW
    refine ⟨hok, _, _, ([] ++ pa) ++ pv, ⟨[] ++ pa, pv, trodAll_append (hargs _ fun _ _ => rfl) (hres _ _ _), hvars _ fun _ _ => rfl, rfl, fun b off hp => ?_, fun ha => ?_⟩, fun p hp _ => ?_⟩
    · have := hall _ (hmem _ hp)
      rw [hfz _ this]
      exact hz b off (hmem _ hp)
    · have := hn ha
      rw [hps] at this
      simpa using this
    · rw [hps]
      simpa using hp

def typedL (p : Nat → List AVal → Prop) : List (Nat × Nat) → List AVal → Prop
  | [], cs => cs = []
  | (_, t) :: r, cs => ∃ xs rest, cs = xs ++ rest ∧ p t xs ∧ typedL p r rest
def typedN (p : List AVal → Prop) : Nat → List AVal → Prop
  | 0, cs => cs = []
  | n + 1, cs => ∃ xs rest, cs = xs ++ rest ∧ p xs ∧ typedN p n rest

/-- Cells of a type, by content. -/
def typed (L : Lay) : Nat → Nat → List AVal → Prop
  | 0, _, _ => False
  | k + 1, t, cs =>
    match (L t).ty with
    | .int i => ∃ n, cs = [.int i n] ∧ fits i n
    | .bool => ∃ b, cs = [.bool b]
    | .string => ∃ s : ByteArray, cs = [.str s] ∧ s.size ≤ maxLen
    | .slice e => ∃ (l : List (List AVal)), cs = [.sl true false l] ∧ l.length ≤ maxLen ∧ ∀ x ∈ l, typed L k e x
    | .struct fs => typedL (typed L k) fs cs
    | .array n e => typedN (typed L k e) n cs
    | _ => False

def offsOk (L : Lay) : Nat → List (Nat × Nat) → Nat → Bool
  | o, [], sz => o == sz
  | o, (a, t) :: r, sz => a == o && offsOk L (o + (L t).sz) r sz

/-- Types of plain data. -/
def dataTy (L : Lay) : Nat → Nat → Bool
  | 0, _ => false
  | k + 1, t =>
    match (L t).ty with
    | .int _ => (L t).sz == 1 && !(L t).ag
    | .bool => (L t).sz == 1 && !(L t).ag
    | .string => (L t).sz == 1 && !(L t).ag
    | .slice e => (L t).sz == 1 && !(L t).ag && decide (0 < (L e).sz) && dataTy L k e
    | .struct fs => (L t).ag && offsOk L 0 fs (L t).sz && fs.all fun f => dataTy L k f.2
    | .array n e => (L t).ag && (n * (L e).sz == (L t).sz) && dataTy L k e
    | _ => false

/-- Cells that stand for cells. -/
def RepL (G : Gh) (ys : List AVal) (cs : List Value) : Prop := ys.length = cs.length ∧ (∀ (j : Nat) (y : AVal), ys[j]? = some y → y.isCell = true) ∧ ∀ (j : Nat) (y : AVal), ys[j]? = some y → Rep G false y (cs.getD j undef)

theorem RepL.nil {G : Gh} : RepL G [] [] := ⟨rfl, fun _ _ h => by simp at h, fun _ _ h => by simp at h⟩
theorem RepL.one {G : Gh} {y : AVal} {v : Value} (hc : y.isCell = true) (h : Rep G false y v) : RepL G [y] [v] := by
  refine ⟨rfl, fun j x hx => ?_, fun j x hx => ?_⟩ <;>
  · cases j with
    | zero => simp at hx; subst hx; first | exact hc | exact h
    | succ j => simp at hx
theorem RepL.append {G : Gh} {ys zs : List AVal} {cs ds : List Value} (h : RepL G ys cs) (k : RepL G zs ds) : RepL G (ys ++ zs) (cs ++ ds) := by
  refine ⟨by simp [h.1, k.1], fun j x hx => ?_, fun j x hx => ?_⟩
  · rw [List.getElem?_append] at hx
    split at hx
    · exact h.2.1 j x hx
    · exact k.2.1 _ x hx
  · rw [List.getElem?_append] at hx
    split at hx
    · rename_i hlt
      have := h.2.2 j x hx
      simpa [List.getD, List.getElem?_append, h.1 ▸ hlt] using this
    · rename_i hlt
      have := k.2.2 _ x hx
      rw [h.1] at hlt this
      simpa [List.getD, List.getElem?_append, hlt] using this

theorem Known.cellsOf {t : Nat} {i : TypeInfo} {d : TypeDesc} {z : Value} (h : Known P L t i d z) : P.cellsOf t = (L t).sz := by
  simp [Program.cellsOf, h.info, h.size]

theorem dataTy_ne {k t : Nat} (h : dataTy L k t = true) : (L t).ty ≠ .other := by
  cases k with
  | zero => simp [dataTy] at h
  | succ k => intro e; simp [dataTy, e] at h

section
variable {H : Type} {enc : TypeId × Value → H} {W : World}

theorem trod_rep (hL : LOk P L) : ∀ (k t : Nat), dataTy L k t = true → ∀ (fuel : Nat) (cs : List Value) (x : DataW H × List MemPlace), DataW.trod enc P W 0 (fun _ => true) true fuel t cs = some x → cs.length = (L t).sz →
    ∃ ys, typed L k t ys ∧ RepL (baseG W) ys cs
  | 0, t, hd, _, _, _, _, _ => by simp [dataTy] at hd
  | k + 1, t, hd, fuel, cs, x, h, hlen => by
    obtain ⟨i, d, z, kn⟩ := hL.known (dataTy_ne hd)
    have hdesc := kn.desc
    have hu := kn.und
    unfold dataTy at hd
    unfold typed
    cases hty : (L t).ty with
    | int q =>
      simp only [hty] at hd hdesc ⊢
      cases d <;> simp only [descIs, Bool.false_eq_true] at hdesc
      rename_i q'
      obtain rfl : q = q' := by simpa using hdesc
      obtain ⟨n, rfl, _, hw⟩ := DataW.trod_int hu h
      have hf : fits q n := by simpa [Lit.wf, fits] using hw
      exact ⟨[.int q n], ⟨n, rfl, hf⟩, .one rfl (.int hf)⟩
    | bool =>
      simp only [hty] at hd hdesc ⊢
      cases d <;> simp only [descIs, Bool.false_eq_true] at hdesc
      obtain ⟨b, rfl, _⟩ := DataW.trod_bool hu h
      exact ⟨[.bool b], ⟨b, rfl⟩, .one rfl .bool⟩
    | string =>
      simp only [hty] at hd hdesc ⊢
      cases d <;> simp only [descIs, Bool.false_eq_true] at hdesc
      obtain ⟨s, rfl, _, hs⟩ := DataW.trod_string hu h
      exact ⟨[.str s], ⟨s, rfl, hs⟩, .one rfl (.str hs)⟩
    | slice e =>
      simp only [hty, Bool.and_eq_true, beq_iff_eq, decide_eq_true_eq] at hd hdesc ⊢
      cases d <;> simp only [descIs, Bool.false_eq_true] at hdesc
      rename_i e'
      obtain ⟨rfl, hne⟩ : e = e' ∧ _ := by simpa using hdesc
      obtain ⟨⟨_, hpos⟩, hde⟩ := hd
      obtain ⟨i2, d2, z2, kn2⟩ := hL.known (dataTy_ne hde)
      have hce := kn2.cellsOf
      rcases open_slice hu h with ⟨rfl, _⟩ | ⟨a, len, cap, m, n, D, Pl, rfl, _, hle, hcap, hm, _, hall⟩
      · exact ⟨[.sl true false []], ⟨[], rfl, Nat.zero_le _, fun x hx => by cases hx⟩, .one rfl (.slnil fun h => by cases h)⟩
      · simp only [if_true] at hm
        subst hm
        -- each element's cells
        have hel : ∀ i, i < len → ∃ ys cs', W.cells? 0 (a.add (i * (L e).sz)) (L e).sz = some cs' ∧ typed L k e ys ∧ RepL (baseG W) ys cs' := by
          intro i hi
          obtain ⟨cs', h1, h2⟩ := hall i (by omega)
          rw [hce] at h1
          obtain ⟨ys, h3, h4⟩ := trod_rep hL k e hde _ cs' _ h2 (World.cells?_some h1).2.1
          exact ⟨ys, cs', h1, h3, h4⟩
        rcases Nat.eq_zero_or_pos len with h0 | hl
        · subst h0
          exact ⟨[.sl true false []], ⟨[], rfl, Nat.zero_le _, fun x hx => by cases hx⟩, .one rfl (.slnil fun h => by cases h)⟩
        · have hpick : ∃ g : Nat → List AVal, ∀ i, i < len → ∃ cs', W.cells? 0 (a.add (i * (L e).sz)) (L e).sz = some cs' ∧ typed L k e (g i) ∧ RepL (baseG W) (g i) cs' := by
            refine ⟨fun i => if hi : i < len then Classical.choose (hel i hi) else [], fun i hi => ?_⟩
            simp only [hi, dif_pos]
            exact Classical.choose_spec (hel i hi)
          obtain ⟨g, hg⟩ := hpick
          -- the block that they lie in
          obtain ⟨cs0, h0, _, hr0⟩ := hg 0 hl
          have hspot : a.spot = none ∧ ∃ c t' fr, W.heap[a.block]? = some (.cells c t' fr) := by
            have hc0 := (World.cells?_some h0).2.2 0 hpos
            have hln := (World.cells?_some h0).2.1
            have ha : (a.add (0 * (L e).sz)).add 0 = a := by simp [Addr.add]
            rw [ha, List.getElem?_eq_getElem (by omega)] at hc0
            unfold World.cell? at hc0
            split at hc0
            · rename_i c t' fr hcell
              split at hc0
              · cases hc0
              · rename_i hs; exact ⟨by simpa using hs, c, t', fr, hcell⟩
            · cases hc0
          obtain ⟨hsp, c, t', fr, hblk⟩ := hspot
          have hcell : ∀ i j, i < len → j < (L e).sz → ∀ cs', W.cells? 0 (a.add (i * (L e).sz)) (L e).sz = some cs' → c[a.off + i * (L e).sz + j]? = cs'[j]? := by
            intro i j hi hj cs' hcs
            rw [← (World.cells?_some hcs).2.2 j hj]
            have : ((a.add (i * (L e).sz)).add j) = ⟨a.block, a.off + i * (L e).sz + j, none⟩ := by
              unfold Addr.add
              by_cases h1 : i * (L e).sz = 0 <;> by_cases h2 : j = 0 <;> simp [h1, h2, hsp] <;> try omega
              · cases a; simp_all
            rw [this]
            simp [World.cell?, hblk]
          obtain ⟨bk, off, sp⟩ := a
          simp only at hsp hblk hcell
          subst hsp
          have hlast : off + len * (L e).sz ≤ c.size := by
            obtain ⟨cs', h1, _, _⟩ := hg (len - 1) (by omega)
            have hln := (World.cells?_some h1).2.1
            have := hcell (len - 1) ((L e).sz - 1) (by omega) (by omega) cs' h1
            rw [List.getElem?_eq_getElem (by omega)] at this
            have hlt := (Array.getElem?_eq_some_iff.1 this).1
            have e1 : len * (L e).sz = (len - 1) * (L e).sz + (L e).sz := by
              rw [← Nat.succ_mul]; congr 1; omega
            omega
          have hl' : ∀ (i : Nat) (x : List AVal), ((List.range len).map g)[i]? = some x → i < len ∧ x = g i := by
            intro i x hx
            rw [List.getElem?_map] at hx
            obtain ⟨j, hj, rfl⟩ := Option.map_eq_some_iff.1 hx
            have := List.getElem?_eq_some_iff.1 hj
            obtain ⟨hlt, e⟩ := this
            simp at hlt e
            subst e; exact ⟨hlt, rfl⟩
          refine ⟨[.sl true false ((List.range len).map g)], ⟨_, rfl, by simp; exact Nat.le_trans hle hcap, fun x hx => ?_⟩, .one rfl ?_⟩
          · obtain ⟨i, hi, rfl⟩ := List.mem_map.1 hx
            obtain ⟨_, _, h1, _⟩ := hg i (by simpa using hi)
            exact h1
          · have hR := Rep.sl (G := baseG W) (o := false) (q := true) (full := false) (l := (List.range len).map g) (cap := m) (b := bk) (off := off) (c := c) (e := t') (fr := fr) (esz := (L e).sz)
              (by simpa using hle) (fun h => by cases h) (by simp; exact Nat.le_trans hle hcap) (.inl trivial) hblk (by simpa using hlast)
              (fun i x hx => by
                obtain ⟨hi, rfl⟩ := hl' i x hx
                obtain ⟨cs', h1, _, h3⟩ := hg i hi
                rw [h3.1, (World.cells?_some h1).2.1])
              (fun i j x y hx hy => by
                obtain ⟨hi, rfl⟩ := hl' i x hx
                obtain ⟨cs', h1, _, h3⟩ := hg i hi
                exact h3.2.1 j y hy)
              (fun i j x y hx hy => by
                obtain ⟨hi, rfl⟩ := hl' i x hx
                obtain ⟨cs', h1, _, h3⟩ := hg i hi
                have hj : j < (L e).sz := by
                  have := (List.getElem?_eq_some_iff.1 hy).1
                  rw [h3.1, (World.cells?_some h1).2.1] at this; exact this
                have h4 := h3.2.2 j y hy
                have h5 := hcell i j hi hj cs' h1
                have e : c.getD (off + i * (L e).sz + j) undef = cs'.getD j undef := by
                  simp only [Array.getD_eq_getD_getElem?, List.getD, h5]
                rw [e]; exact h4)
            simpa using hR
    | struct fs =>
      simp only [hty, Bool.and_eq_true] at hd hdesc ⊢
      cases d <;> simp only [descIs, Bool.false_eq_true] at hdesc
      rename_i gs
      obtain ⟨⟨_, hoff⟩, hall⟩ := hd
      obtain ⟨xs, n, _, _, _, hxl, hxs⟩ := DataW.trod_struct hu h
      have hall' := fun f hf => List.all_eq_true.1 hall f hf
      -- field by field
      have key : ∀ (fs' : List (Nat × Nat)) (gs' : List Field) (o m : Nat), fieldsAre L fs' gs' = true → offsOk L o fs' (L t).sz = true → (∀ f ∈ fs', dataTy L k f.2 = true) → (∀ (i : Nat) (f : Field), gs'[i]? = some f → gs[m + i]? = some f) → m + gs'.length = gs.size → o ≤ (L t).sz →
          ∃ ys, typedL (typed L k) fs' ys ∧ RepL (baseG W) ys (cs.drop o) := by
        intro fs'
        induction fs' with
        | nil =>
          intro gs' o m hf ho _ _ _ _
          simp only [offsOk, beq_iff_eq] at ho
          refine ⟨[], rfl, ?_⟩
          rw [List.drop_eq_nil_of_le (by omega)]; exact .nil
        | cons ft fs' ih =>
          intro gs' o m hf ho hda hgs hm hole
          obtain ⟨fo, ftt⟩ := ft
          cases gs' with
          | nil => simp [fieldsAre] at hf
          | cons g gs' =>
            simp only [fieldsAre, Bool.and_eq_true, beq_iff_eq, decide_eq_true_eq, bne_iff_ne] at hf
            obtain ⟨⟨⟨⟨h1, h2⟩, h3⟩, h4⟩, h5⟩ := hf
            simp only [offsOk, Bool.and_eq_true, beq_iff_eq] at ho
            obtain ⟨rfl, ho⟩ := ho
            have hdt : dataTy L k ftt = true := hda (fo, ftt) (by simp)
            obtain ⟨i2, d2, z2, kn2⟩ := hL.known h4
            have hce := kn2.cellsOf
            have hole2 : fo + (L ftt).sz ≤ (L t).sz := by
              have : ∀ (l : List (Nat × Nat)) (o : Nat), offsOk L o l (L t).sz = true → o ≤ (L t).sz := by
                intro l
                induction l with
                | nil => intro o h; simp only [offsOk, beq_iff_eq] at h; omega
                | cons a l ih => intro o h; simp only [offsOk, Bool.and_eq_true, beq_iff_eq] at h; have := ih _ h.2; omega
              exact this fs' _ ho
            have hg0 := hgs 0 g (by simp)
            have htr := hxs m g (by simpa using hg0)
            rw [h2, hce, h1] at htr
            have hml : m < xs.length := by
              rw [hxl]; have := (Array.getElem?_eq_some_iff.1 hg0).1; simpa using this
            rw [List.getElem?_eq_getElem hml] at htr
            obtain ⟨ys, hy1, hy2⟩ := trod_rep hL k ftt hdt n _ _ htr (by simp [hlen]; omega)
            obtain ⟨zs, hz1, hz2⟩ := ih gs' (fo + (L ftt).sz) (m + 1) h5 ho (fun f hf => hda f (by simp [hf])) (fun i f hi => by have := hgs (i + 1) f (by simpa using hi); rw [show m + 1 + i = m + (i + 1) by omega]; exact this) (by simp at hm ⊢; omega) hole2
            refine ⟨ys ++ zs, ⟨ys, zs, rfl, hy1, hz1⟩, ?_⟩
            have e : cs.drop fo = (cs.drop fo).take (L ftt).sz ++ cs.drop (fo + (L ftt).sz) := by
              rw [← List.drop_drop]; exact (List.take_append_drop _ _).symm
            rw [e]
            exact hy2.append hz2
      have hfd : fieldsAre L fs gs.toList = true := hdesc
      have := key fs gs.toList 0 0 hfd hoff hall' (fun i f hi => by simpa using hi) (by simp) (Nat.zero_le _)
      simpa using this
    | array n e =>
      simp only [hty, Bool.and_eq_true, beq_iff_eq] at hd hdesc ⊢
      cases d <;> simp only [descIs, Bool.false_eq_true] at hdesc
      rename_i n' e'
      simp only [Bool.and_eq_true, beq_iff_eq] at hdesc
      obtain ⟨⟨rfl, rfl⟩, hne⟩ := hdesc
      obtain ⟨⟨_, hsz⟩, hde⟩ := hd
      obtain ⟨i2, d2, z2, kn2⟩ := hL.known (dataTy_ne hde)
      have hce := kn2.cellsOf
      obtain ⟨xs, m, _, _, _, hxl, hxs⟩ := DataW.trod_array hu h
      have key : ∀ r o, r + o = n → ∃ ys, typedN (typed L k e) r ys ∧ RepL (baseG W) ys (cs.drop (o * (L e).sz)) := by
        intro r
        induction r with
        | zero =>
          intro o ho
          refine ⟨[], rfl, ?_⟩
          rw [List.drop_eq_nil_of_le (by rw [hlen, ← hsz, ← ho]; simp)]; exact .nil
        | succ r ih =>
          intro o ho
          have htr := hxs o (by omega)
          rw [hce, List.getElem?_eq_getElem (by omega)] at htr
          have hle : o * (L e).sz + (L e).sz ≤ cs.length := by
            rw [hlen, ← hsz, ← Nat.succ_mul]; exact Nat.mul_le_mul_right _ (by omega)
          obtain ⟨ys, hy1, hy2⟩ := trod_rep hL k e hde m _ _ htr (by simp; omega)
          obtain ⟨zs, hz1, hz2⟩ := ih (o + 1) (by omega)
          refine ⟨ys ++ zs, ⟨ys, zs, rfl, hy1, hz1⟩, ?_⟩
          have e' : cs.drop (o * (L e).sz) = (cs.drop (o * (L e).sz)).take (L e).sz ++ cs.drop ((o + 1) * (L e).sz) := by
            rw [Nat.succ_mul, ← List.drop_drop]; exact (List.take_append_drop _ _).symm
          rw [e']
          exact hy2.append hz2
      have := key n 0 (by omega)
      simpa using this
    | _ => simp [hty] at hd

/-- A parameter, by content. -/
def typedP (L : Lay) (t : Nat) (x : AVal) : Prop := if (L t).ag then ∃ ys, x = .agg ys ∧ typed L 9 t ys else typed L 9 t [x]
def typedAll (L : Lay) : List Nat → List AVal → Prop
  | [], xs => xs = []
  | t :: ts, xs => ∃ x r, xs = x :: r ∧ typedP L t x ∧ typedAll L ts r

theorem typed_len : ∀ (k t : Nat) (ys : List AVal), dataTy L k t = true → (L t).ag = false → typed L k t ys → ∃ y, ys = [y]
  | 0, t, ys, hd, _, _ => by simp [dataTy] at hd
  | k + 1, t, ys, hd, ha, h => by
    unfold dataTy at hd
    unfold typed at h
    cases hty : (L t).ty <;> simp only [hty] at hd h <;> try (cases hd; done)
    case int => obtain ⟨n, rfl, _⟩ := h; exact ⟨_, rfl⟩
    case bool => obtain ⟨n, rfl⟩ := h; exact ⟨_, rfl⟩
    case string => obtain ⟨n, rfl, _⟩ := h; exact ⟨_, rfl⟩
    case slice => obtain ⟨l, rfl, _⟩ := h; exact ⟨_, rfl⟩
    case struct => simp [ha] at hd
    case array => simp [ha] at hd

theorem arg_rep (hL : LOk P L) {t base : Nat} {v : Value} {d : DataW H} {ps : List MemPlace} (hd : dataTy L 9 t = true) (hok : Value.okWide P W .any base t v) (h : DataW.Trod enc P W 0 (fun _ => true) true t v d ps) :
    ∃ x, typedP L t x ∧ Rep (baseG W) false x v := by
  obtain ⟨i, ds, z, kn⟩ := hL.known (dataTy_ne hd)
  have hu := kn.und
  have hag := kn.agg
  obtain ⟨fuel, hf⟩ := h
  unfold Value.okWide at hok
  unfold typedP
  cases ha : (L t).ag with
  | true =>
    rw [ha] at hag
    have hv : ∃ cs, v = .agg cs ∧ cs.size = P.cellsOf t := by
      rw [hu] at hok
      cases ds <;> simp only [isAggD, Bool.false_eq_true] at hag
      all_goals obtain ⟨cs, h1, h2, _⟩ := hok; exact ⟨cs, h1, h2⟩
    obtain ⟨cs, rfl, hsz⟩ := hv
    obtain ⟨ys, h1, h2⟩ := trod_rep hL 9 t hd fuel _ _ hf (by simp [Value.cells, hsz, kn.cellsOf])
    refine ⟨.agg ys, by simp only [if_true]; exact ⟨ys, rfl, h1⟩, .agg (by have := h2.1; simpa [Value.cells] using this.symm) h2.2.1 fun j x hx => ?_⟩
    have := h2.2.2 j x hx
    simpa [Value.cells, List.getD] using this
  | false =>
    rw [ha] at hag
    have hv : v.cells = #[v] := by
      rw [hu] at hok
      cases ds <;> simp only [isAggD, Bool.true_eq_false] at hag <;> cases v <;> first | rfl | (simp [Cell.okWide, Cell.ok, hu] at hok)
    rw [hv] at hf
    have hs1 : (L t).sz = 1 := by
      unfold dataTy at hd
      cases hty : (L t).ty <;> simp only [hty] at hd <;> try (cases hd; done)
      all_goals first | (simp [ha] at hd; simp [hd]; done) | (simp [ha] at hd)
    obtain ⟨ys, h1, h2⟩ := trod_rep hL 9 t hd fuel _ _ hf (by simp [hs1])
    obtain ⟨y, rfl⟩ := typed_len 9 t ys hd ha h1
    refine ⟨y, by simpa using h1, ?_⟩
    have := h2.2.2 0 y rfl
    simpa using this

theorem args_rep (hL : LOk P L) {base : Nat} : ∀ (ts : List Nat) (vs : List Value) (ds : List (DataW H)) (ps : List MemPlace), (∀ t ∈ ts, dataTy L 9 t = true) → (∀ (j : Nat) t v, ts[j]? = some t → vs[j]? = some v → Value.okWide P W .any base t v) →
    DataW.TrodAll enc P W 0 (fun _ => true) true ts vs ds ps → ∃ xs, typedAll L ts xs ∧ vs.length = xs.length ∧ ∀ (j : Nat) (x : AVal), xs[j]? = some x → Rep (baseG W) false x (vs.getD j undef)
  | [], vs, ds, ps, _, _, h => by
    obtain ⟨rfl, _, _⟩ := trodAll_nil h
    exact ⟨[], rfl, rfl, fun j x hx => by simp at hx⟩
  | t :: ts, vs, ds, ps, hd, hok, h => by
    obtain ⟨v, vs', d, ds', p, q, rfl, rfl, rfl, h1, h2⟩ := trodAll_cons h
    obtain ⟨x, hx1, hx2⟩ := arg_rep hL (hd t (by simp)) (hok 0 t v rfl rfl) h1
    obtain ⟨xs, h3, h4, h5⟩ := args_rep hL ts vs' ds' q (fun t ht => hd t (by simp [ht])) (fun j t v hj hv => hok (j + 1) t v (by simpa using hj) (by simpa using hv)) h2
    refine ⟨x :: xs, ⟨x, xs, rfl, hx1, h3⟩, by simp [h4], fun j y hy => ?_⟩
    cases j with
    | zero => simp at hy; subst hy; simpa using hx2
    | succ j => simpa using h5 j y (by simpa using hy)

theorem trodAll_len : ∀ (ts : List Nat) (vs : List Value) (ds : List (DataW H)) (ps : List MemPlace), DataW.TrodAll enc P W 0 (fun _ => true) true ts vs ds ps → ds.length = ts.length
  | [], vs, ds, ps, h => by
    obtain ⟨rfl, rfl, rfl⟩ := trodAll_nil h
    rfl
  | t :: ts, vs, ds, ps, h => by
    obtain ⟨v, vs', d, ds', p, q, rfl, rfl, rfl, h1, h2⟩ := trodAll_cons h
    simp [trodAll_len ts _ _ _ h2]

theorem trodAll_stays (hl : laidOutB P = true) {W' : World} {sp : Nat → Bool} : ∀ (ts : List Nat) (vs : List Value) (ds : List (DataW H)) (ps : List MemPlace), (∀ t ∈ ts, P.readableRec t = true ∧ t < P.types.size) → (∀ p ∈ ps, W.sameAt W' p) → (∀ p ∈ ps, sp p.block = true) →
    DataW.TrodAll enc P W 0 (fun _ => true) true ts vs ds ps → DataW.TrodAll enc P W' 0 sp true ts vs ds ps
  | [], vs, ds, ps, _, _, _, h => by
    obtain ⟨rfl, rfl, rfl⟩ := trodAll_nil h
    exact rfl
  | t :: ts, vs, ds, ps, hr, hs, hsp, h => by
    obtain ⟨v, vs', d, ds', p, q, rfl, rfl, rfl, h1, h2⟩ := trodAll_cons h
    exact ⟨p, q, WideElems.Trod_stays hl (hr t (by simp)).1 (hr t (by simp)).2 h1 (fun x hx => hs x (by simp [hx])) (fun x hx => hsp x (by simp [hx])),
      trodAll_stays hl ts vs' ds' q (fun t ht => hr t (by simp [ht])) (fun x hx => hs x (by simp [hx])) (fun x hx => hsp x (by simp [hx])) h2, rfl⟩
end

/-- A LAW's ROW: from the contract that it tells true whatever the content. -/
theorem law_contract (hL : LOk P L) (hl : laidOutB P = true) {fn : Func} {f : Nat} {s : ChangeSpec} {ts : List Nat} {tb : Nat} {apart fresh handsOn again : Bool} (hts : fn.params.toList = ts) (hres : fn.resultTypes = #[tb]) (hb : P.underlying tb = some .bool) (hvars : s.vars = [])
    (hfn : ∀ (H : Type) (ds : List (DataW H)), ds.length = ts.length → s.fn H ds = { results := [.lit (.bool true)], args := ds }) (hread : ts.all (fun t => P.readableRec t && decide (t < P.types.size) && dataTy L 9 t) = true)
    (h : ∀ xs : List AVal, typedAll L ts xs → ACall P f xs [] fun r _ => r = .bool true)
    (H : Type) (enc : TypeId × Value → H) (W : World) (base : Nat) (args : Array Value) (ds gs : List (DataW H)) (before : List MemPlace)
    (hval : ∀ (j : Nat) t v, fn.params[j]? = some t → args[j]? = some v → Value.okWide P W .any base t v) (hW : DataW.Whole enc P fn.params.toList s.vars false W args.toList ds gs before) (hap : apart = false) (hT : GlobIn W) :
    Calls P f args W fun e W' => ∃ v, e = .returned v ∧ s.post enc P fn apart fresh handsOn again W args v W' := by
  subst hap
  have hW' := hW
  obtain ⟨p, q, hA, hV, hps, hfz, hnd⟩ := hW
  rw [hvars] at hV
  obtain ⟨rfl, rfl⟩ : gs = [] ∧ q = [] := by
    cases gs with
    | nil => exact ⟨rfl, hV⟩
    | cons => exact hV.elim
  simp only [List.append_nil] at hps
  subst hps
  have hr : ∀ t ∈ ts, (P.readableRec t = true ∧ t < P.types.size) ∧ dataTy L 9 t = true := by
    intro t ht
    have := List.all_eq_true.1 hread t ht
    simpa using this
  have hA' := hA
  rw [hts] at hA'
  have hlen := trodAll_len ts _ _ _ hA'
  obtain ⟨xs, h1, h2, h3⟩ := args_rep hL ts args.toList ds before (fun t ht => (hr t ht).2) (fun j t v hj hv => hval j t v (by rw [← hj, ← hts]; simp) (by rw [← hv]; simp)) hA'
  refine ((h xs h1).calls (baseG W) W args (baseG_wok hT) sto_nil ⟨by simpa using h2, fun j x hx => ?_⟩).mono fun e W' p => ?_
  · have := (h3 j x hx).up
    simpa [List.getD] using this
  · obtain ⟨G', cr, r, sto', rfl, hx', hw', _, hrep, rfl⟩ := p
    have hg := base_grown hx' hw'
    cases hrep
    have hsame : ∀ x ∈ before, W.sameAt W' x := by
      intro x hx
      have hlt := hW'.lt x hx
      have hold : W'.heap[x.block]? = W.heap[x.block]? := by
        have h1 : (baseG W).F x.block = some W.heap[x.block] := Array.getElem?_eq_getElem hlt
        have hlt' := hlt
        rw [hw'.F _ _ (hx'.F _ _ h1), Array.getElem?_eq_getElem hlt]
      cases x with
      | cell b off => simp only [World.sameAt, World.cell?]; simp only [MemPlace.block] at hold; rw [hold]
      | map b => exact hold
    refine ⟨_, rfl, post_old (pa := before) (pv := []) hW' (fun _ _ _ => ?_) (fun sp hsp => ?_) (fun _ _ => ?_) (by simp) (World.keptBut_mono (fun _ h => h.elim) hg.1) hg.2 (ok_one hres rfl (okWide_bool_mk hb true))⟩
    · rw [hfn H _ (by simpa using hlen), hres]
      exact trodAll_cons_mk (shut_bool hb true) trodAll_mk0
    · rw [hfn H _ (by simpa using hlen), hts]
      simp only [List.append_nil]
      exact trodAll_stays hl ts _ _ _ (fun t ht => (hr t ht).1) hsame hsp hA'
    · rw [hfn H _ (by simpa using hlen), hvars]; exact rfl
end Go.Rad
/- What an argument of a type is, by content. -/
namespace Go.Rad
open Go
theorem list_of {α : Type} {F : α → List AVal} {P : α → Prop} : ∀ {l : List (List AVal)}, (∀ y ∈ l, ∃ a, y = F a ∧ P a) → ∃ bs : List α, l = bs.map F ∧ ∀ a ∈ bs, P a
  | [], _ => ⟨[], rfl, fun a h => by simp at h⟩
  | y :: l, h => by
    obtain ⟨a, rfl, ha⟩ := h y (by simp)
    obtain ⟨bs, rfl, has⟩ := list_of (l := l) fun y hy => h y (by simp [hy])
    refine ⟨a :: bs, rfl, fun b hb => ?_⟩
    rcases List.mem_cons.1 hb with rfl | hb
    · exact ha
    · exact has b hb
section
variable {L : Lay} {k t : Nat} {y : List AVal}
theorem ty_int {i : IntKind} (ht : (L t).ty = .int i) (h : typed L (k + 1) t y) : ∃ n, y = [.int i n] ∧ fits i n := by
  unfold typed at h; rw [ht] at h; exact h
theorem ty_bool (ht : (L t).ty = .bool) (h : typed L (k + 1) t y) : ∃ b, y = [.bool b] := by
  unfold typed at h; rw [ht] at h; exact h
theorem ty_str (ht : (L t).ty = .string) (h : typed L (k + 1) t y) : ∃ s : ByteArray, y = [.str s] ∧ s.size ≤ maxLen := by
  unfold typed at h; rw [ht] at h; exact h
theorem ty_slice {e : Nat} (ht : (L t).ty = .slice e) (h : typed L (k + 1) t y) : ∃ l : List (List AVal), y = [.sl true false l] ∧ l.length ≤ maxLen ∧ ∀ x ∈ l, typed L k e x := by
  unfold typed at h; rw [ht] at h; exact h
theorem ty_struct {fs : List (Nat × Nat)} (ht : (L t).ty = .struct fs) (h : typed L (k + 1) t y) : typedL (typed L k) fs y := by
  unfold typed at h; rw [ht] at h; exact h
theorem ty_array {n e : Nat} (ht : (L t).ty = .array n e) (h : typed L (k + 1) t y) : typedN (typed L k e) n y := by
  unfold typed at h; rw [ht] at h; exact h
theorem ty_ints {e : Nat} (ht : (L t).ty = .slice e) (he : (L e).ty = .int .i64) (h : typed L (k + 2) t y) : ∃ l : List Int, y = [.sl true false (ints l)] ∧ l.length ≤ maxLen := by
  obtain ⟨l, rfl, hl, hx⟩ := ty_slice ht h
  obtain ⟨ns, rfl, _⟩ := list_of (F := fun n => [AVal.int .i64 n]) (P := fun _ => True) fun x hx' => by
    obtain ⟨n, rfl, _⟩ := ty_int he (hx x hx')
    exact ⟨n, rfl, trivial⟩
  exact ⟨ns, rfl, by simpa using hl⟩
theorem ty_set {e : Nat} (ht : (L t).ty = .array 4 e) (he : (L e).ty = .int .u64) (h : typed L (k + 2) t y) : ∃ s : ISet, y = s.cells := by
  have h := ty_array ht h
  obtain ⟨x1, r1, rfl, h1, x2, r2, rfl, h2, x3, r3, rfl, h3, x4, r4, rfl, h4, rfl⟩ := h
  obtain ⟨a, rfl, _⟩ := ty_int he h1
  obtain ⟨b, rfl, _⟩ := ty_int he h2
  obtain ⟨c, rfl, _⟩ := ty_int he h3
  obtain ⟨d, rfl, _⟩ := ty_int he h4
  exact ⟨⟨a, b, c, d⟩, rfl⟩
/-- The types of a node's parts. -/
structure NodeTy (L : Lay) (t : Nat) : Prop where
  ex : ∃ o st l i s w : Nat, (L t).ty = .struct [(0, o), (1, st), (5, l), (6, i), (7, i), (8, s)] ∧ (L o).ty = .int .u8 ∧ (L st).ty = .array 4 w ∧ (L w).ty = .int .u64 ∧ (L l).ty = .slice i ∧ (L i).ty = .int .i64 ∧ (L s).ty = .string
theorem ty_node (hn : NodeTy L t) (h : typed L (k + 3) t y) : ∃ n : Node, y = n.cells ∧ n.name.size ≤ maxLen ∧ n.l.length ≤ maxLen := by
  obtain ⟨o, st, l, i, s, w, h1, h2, h3, h4, h5, h6, h7⟩ := hn.ex
  have h := ty_struct h1 h
  obtain ⟨x1, r1, rfl, p1, x2, r2, rfl, p2, x3, r3, rfl, p3, x4, r4, rfl, p4, x5, r5, rfl, p5, x6, r6, rfl, p6, rfl⟩ := h
  obtain ⟨no, rfl, _⟩ := ty_int h2 p1
  obtain ⟨ns, rfl⟩ := ty_set h3 h4 p2
  obtain ⟨nl, rfl, hl⟩ := ty_ints h5 h6 p3
  obtain ⟨nlo, rfl, _⟩ := ty_int h6 p4
  obtain ⟨nhi, rfl, _⟩ := ty_int h6 p5
  obtain ⟨nn, rfl, hs⟩ := ty_str h7 p6
  exact ⟨⟨no, ns, nl, nlo, nhi, nn⟩, rfl, hs, hl⟩
theorem ty_nodes {e : Nat} (ht : (L t).ty = .slice e) (hn : NodeTy L e) (h : typed L (k + 4) t y) : ∃ l : List Node, y = [.sl true false (nodes l)] ∧ l.length ≤ maxLen ∧ ∀ n ∈ l, n.name.size ≤ maxLen ∧ n.l.length ≤ maxLen := by
  obtain ⟨l, rfl, hl, hx⟩ := ty_slice ht h
  obtain ⟨ns, rfl, hns⟩ := list_of (F := Node.cells) (P := fun n => n.name.size ≤ maxLen ∧ n.l.length ≤ maxLen) fun x hx' => ty_node hn (hx x hx')
  exact ⟨ns, rfl, by simpa using hl, hns⟩
structure DefTy (L : Lay) (t : Nat) : Prop where
  ex : ∃ s l n : Nat, (L t).ty = .struct [(0, s), (1, l)] ∧ (L s).ty = .string ∧ (L l).ty = .slice n ∧ NodeTy L n
theorem ty_defs {e : Nat} (ht : (L t).ty = .slice e) (hn : DefTy L e) (h : typed L (k + 6) t y) : ∃ l : List Df, y = [.sl true false (defs l)] ∧ l.length ≤ maxLen ∧ ∀ d ∈ l, d.name.size ≤ maxLen ∧ d.l.length ≤ maxLen ∧ ∀ n ∈ d.l, n.name.size ≤ maxLen ∧ n.l.length ≤ maxLen := by
  obtain ⟨s, ln, n, h1, h2, h3, h4⟩ := hn.ex
  obtain ⟨l, rfl, hl, hx⟩ := ty_slice ht h
  obtain ⟨ds, rfl, hds⟩ := list_of (F := Df.cells) (P := fun d => d.name.size ≤ maxLen ∧ d.l.length ≤ maxLen ∧ ∀ n ∈ d.l, n.name.size ≤ maxLen ∧ n.l.length ≤ maxLen) fun x hx' => by
    have h := ty_struct h1 (hx x hx')
    obtain ⟨x1, r1, rfl, p1, x2, r2, rfl, p2, rfl⟩ := h
    obtain ⟨nn, rfl, hs⟩ := ty_str h2 p1
    obtain ⟨dl, rfl, hd1, hd2⟩ := ty_nodes h3 h4 p2
    exact ⟨⟨nn, dl⟩, rfl, hs, hd1, hd2⟩
  exact ⟨ds, rfl, by simpa using hl, hds⟩
theorem ty_one (ha : (L t).ag = false) {x : AVal} (h : typedP L t x) : typed L 9 t [x] := by
  unfold typedP at h; rw [ha] at h; exact h
end
end Go.Rad
