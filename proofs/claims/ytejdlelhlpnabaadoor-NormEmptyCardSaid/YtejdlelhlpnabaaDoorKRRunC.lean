/- A call on known things, reckoned: the contract. -/
import Derived.Test.YtejdlelhlpnabaaDoorKRRun
import Derived.Test.YtejdlelhlpnabaaDoorKRDraw
import Derived.Test.YtejdlelhlpnabaaDoorKRGlob
import Derived.Test.YtejdlelhlpnabaaDoorKRDefer
import Derived.Test.YtejdlelhlpnabaaDoorKL06e
import Derived.Test.YtejdlelhlpnabaaDoorKROrder
import Derived.Test.YtejdlelhlpnabaaDoorCards
import Derived.Test.YtejdlelhlpnabaaDoorTie
import Derived.Test.YtejdlelhlpnabaaDoorKC03b
import Derived.Lib.LaidTab
import Derived.LaidMore
set_option linter.all false
namespace Go.Rad
open Go
variable {P : Program} {L : Lay}
theorem quiet_ok : Quiet P := fun f args v sto h1 h2 h3 h4 => ACall.alone (ACall.none h4) (map_self fun x hx => tr_flat (List.all_eq_true.1 h1 x hx)) (bk_flat h2) h3
/-- Rows that a result holds are given away. -/
def finCells : AVal → List AVal
  | .tup vs => vs
  | v => [v]
def xFin : Nat → AVal → Sto → Option AVal
  | 0, v, _ => some v
  | k + 1, v, s =>
    match firstOsl (finCells v) with
    | none => some v
    | some id =>
      match sget s id with
      | some (g, .row _ l) => req (okFs id g l.length v && okFS id g l.length (sdel s id)) (xFin k (rf id g l v) (rfS id g l (sdel s id)))
      | _ => none
theorem fin_post {E : Gh} {R : AVal → Prop} {e : Ending} {w' : World} {r : Nat → Nat} : ∀ (k : Nat) {v v' : AVal} {s : Sto}, xFin k v s = some v' → R (mg r v') → Post E (fun v1 s1 => v1 = mg r v ∧ s1 = mgS r s) e w' → Post E (fun v1 _ => R v1) e w'
  | 0, v, v', s, h, hR, hp => by
    simp only [xFin, Option.some.injEq] at h; subst h
    exact hp.mono (.refl E) fun _ _ hx => by rw [hx.1]; exact hR
  | k + 1, v, v', s, h, hR, ⟨G', cr, r1, s1, h1, h2, h3, h4, h5, h6, h7⟩ => by
    simp only [xFin] at h
    split at h
    · cases h; exact ⟨G', cr, r1, s1, h1, h2, h3, h4, h5, by rw [h6]; exact hR⟩
    · split at h
      · rename_i g esz l hg
        simp only [req_iff, Bool.and_eq_true] at h
        obtain ⟨⟨hk1, hk2⟩, h⟩ := h
        subst h6 h7
        obtain ⟨G2, q1, q2, q3, q4⟩ := all_freeze (g := r g) (esz := esz) (l := l) h3 h4 (by rw [sget_mgS, hg]; rfl)
        refine fin_post k h hR ⟨G2, cr, _, _, h1, h2.trans q1, q2, q3, q4 _ _ h5, rf_mg hk1, ?_⟩
        rw [← sdel_mgS, ← rfS_mg _ hk2]
      · cases h
def rowIds : Sto → List Nat
  | [] => []
  | (i, _, .row _ _) :: s => i :: rowIds s
  | _ :: s => rowIds s
theorem sfilt_mg {r : Nat → Nat} {keep : List Nat} : ∀ s : Sto, mgS r (sfilt keep s) = sfilt keep (mgS r s)
  | [] => rfl
  | (i, g, o) :: s => by
    have ih := sfilt_mg (r := r) (keep := keep) s
    simp only [sf_cons, mgS]
    split
    · simp only [mgS, ih]
    · exact ih
/-- A closed call that is reckoned, and tells a thing that leads nowhere. -/
def ran (x : Option (AVal × Sto × Nat)) : Option AVal := x.bind fun x => (xFin 4 x.1 (sfilt (rowIds x.2.1) x.2.1)).bind fun v => req (flat v) (some v)
theorem run_c (hL : LOk P L) (hm : P.follows .mixedOrders = true) (hn : (P.funcs.all fun fn => !(fn.name == "runtime.NumGoroutine")) = true) (tab : Nat → Tab) {kn : Known1} (hkn : KnOk P kn) (fs : List Nat) (hfs : fs.all (fnOk P L tab) = true) (fuel k : Nat) {f : Nat} {args : List AVal} {v : AVal} (ha : args.all flat = true) (h : ran (xCall P L tab kn fuel fs k false f args [] 1000) = some v) :
    ACall P f args [] fun r s => r = v ∧ s = [] := by
  simp only [ran, Option.bind_eq_some_iff, req_iff, Option.some.injEq] at h
  obtain ⟨⟨u, s, n⟩, h1, u', h2, h3, rfl⟩ := h
  have h4 := (xCall_ok hL hm hn quiet_ok hkn hfs k false f args [] 1000 _ _ _ h1).2.2 id
  rw [map_self fun x hx => mg_id (flat_bd (List.all_eq_true.1 ha x hx))] at h4
  refine ACall.none ⟨h4.able, fun G w cargs a b c => (h4.calls G w cargs a b c).mono fun e w' p => ?_⟩
  obtain ⟨G', cr, r1, s1, x1, x2, x3, x4, x5, r', _, rfl, rfl⟩ := p
  exact fin_post (R := fun r => r = u') 4 h2 (mg_id (flat_bd h3)) ⟨G', cr, _, _, x1, x2, x3, sto_filt (rowIds s) x4, x5, rfl, (sfilt_mg s).symm⟩
end Go.Rad
/- What the run of closed calls must know of each function. -/
namespace Go.Rad
open Go
def rtabs : List Tab := [
  ⟨[], []⟩,
  ⟨[], []⟩,
  ⟨[], []⟩,
  ⟨[0, 1, 4, 5, 6, 7, 8, 9, 10, 11, 12, 13, 14, 15, 20, 21, 22, 73, 75], [(8, ⟨11, [0, 1, 2, 3, 4, 5, 6, 7, 8, 9, 10, 11, 12, 13, 14, 15], [48], [], [6], [39]⟩)]⟩,
  ⟨[0, 1, 4, 5, 6, 7, 8], []⟩,
  ⟨[0, 1, 4, 5, 6, 7, 10, 12, 13, 15, 36, 64, 65, 66, 67, 71, 72, 73, 74], [(2, ⟨12, [0, 1, 2, 3, 4, 5, 6, 7, 8, 9, 10, 11], [], [], [], []⟩)]⟩,
  ⟨[0, 2, 3, 4, 5, 6, 7, 16, 44, 45, 46, 47, 48, 66], [(12, ⟨7, [0, 1, 2, 3, 4, 5, 6, 7, 8], [59, 64], [], [], []⟩)]⟩,
  ⟨[0, 1, 4, 7, 10, 13, 16, 17, 19], []⟩,
  ⟨[0, 2, 3, 4, 5, 6, 7, 8, 9, 20], []⟩,
  ⟨[0, 2, 3, 5, 8, 9, 10, 11, 12], [(7, ⟨4, [0, 1, 3, 4, 2, 5, 6, 7, 8, 9], [], [], [5], [18]⟩)]⟩,
  ⟨[0, 1, 4, 5, 6, 8, 10, 18, 23, 24, 25, 26, 45], [(7, ⟨8, [0, 1, 2, 3, 4, 5, 6, 7, 8], [], [], [], []⟩)]⟩,
  ⟨[0, 2], []⟩,
  ⟨[0, 1, 4, 5, 6, 7, 8, 13, 17, 69, 74, 87], [(13, ⟨11, [0, 1, 2, 3, 4, 5, 6, 7, 8, 9, 10], [], [], [], []⟩)]⟩,
  ⟨[0, 1, 4, 5, 6, 14, 31], [(6, ⟨6, [0, 1, 2, 3, 4, 5], [], [], [], []⟩)]⟩,
  ⟨[0, 2, 3, 4, 5, 8, 12], []⟩,
  ⟨[0, 2, 3, 4, 5, 6, 7, 10, 16, 17, 18, 19, 24, 25, 30, 40, 49], [(13, ⟨5, [0, 1, 2, 3, 4, 5, 6, 7, 8], [], [], [3], [3]⟩), (15, ⟨5, [0, 1, 2, 3, 4, 5, 6, 7], [], [], [3], [3]⟩), (17, ⟨15, [0, 1, 2, 3, 4, 5, 6, 7, 8, 9, 10, 11, 12, 13, 14, 15], [], [], [], []⟩)]⟩,
  ⟨[0, 2], []⟩,
  ⟨[0, 2, 3, 5, 7, 8, 9, 10, 28], []⟩,
  ⟨[0, 2, 3, 4, 8, 26, 29, 42], [(9, ⟨11, [0, 1, 2, 3, 4, 5, 6, 7, 8, 9, 10], [], [], [], []⟩)]⟩,
  ⟨[0, 2, 3, 4, 5, 6, 14, 18, 26, 43, 47, 55], []⟩,
  ⟨[0, 2, 3, 4, 5, 8, 16, 27, 41], [(8, ⟨11, [0, 1, 2, 3, 4, 5, 6, 7, 8, 9, 10], [], [], [], []⟩)]⟩,
  ⟨[0, 2, 3, 4, 5, 6, 14, 15, 16, 17, 18, 32, 45], [(10, ⟨7, [0, 1, 2, 3, 4, 5, 6], [], [], [], []⟩)]⟩,
  ⟨[0, 1, 2, 3, 5, 7, 13, 14, 15, 16, 31, 32, 33, 34], [(2, ⟨2, [0, 6, 1, 2, 3, 4, 5], [11], [], [1], [1]⟩), (5, ⟨4, [0, 1, 2, 3, 4, 5, 6, 7], [22, 24], [], [3], [3]⟩), (7, ⟨2, [0, 6, 1, 2, 3, 4, 5], [29], [], [1], [1]⟩), (10, ⟨4, [0, 1, 2, 3, 4, 5, 6, 7], [40, 42], [], [3], [3]⟩)]⟩,
  ⟨[0, 2, 4], []⟩,
  ⟨[0, 1, 4, 5, 6, 7, 8, 9, 13, 14, 15, 16, 22, 44], []⟩,
  ⟨[0, 1, 2, 6, 7, 8, 9, 10, 11, 18, 24, 34, 75, 93, 99], [(11, ⟨19, [0, 1, 2, 3, 4, 5, 6, 7, 8, 9, 10, 11, 12, 13, 14, 15, 16, 17, 18, 19, 20], [], [], [], []⟩), (25, ⟨7, [0, 1, 2, 3, 4, 5, 6, 7, 8, 9, 10], [111], [], [], []⟩)]⟩,
  ⟨[0, 1, 2, 3, 4, 7, 18], []⟩,
  ⟨[0, 1, 3], []⟩,
  ⟨[0, 1, 3], []⟩,
  ⟨[0, 1, 4], []⟩,
  ⟨[0, 1, 4, 5, 6, 7, 13, 14, 16, 22, 32, 33, 39, 48, 49], []⟩,
  ⟨[0, 2, 3, 5, 6, 7, 24], []⟩,
  ⟨[0, 2, 3, 7, 25], []⟩,
  ⟨[0, 1, 2, 3, 4, 5, 6, 23, 24, 42, 59, 78, 125], []⟩,
  ⟨[0, 1, 2, 6, 7, 8, 9, 10, 11, 16, 25, 42, 52], []⟩,
  ⟨[0, 2, 3, 21, 43], [(2, ⟨15, [0, 1, 2, 3, 4, 5, 6, 7, 8, 9, 10, 11, 12, 13, 14], [], [], [], []⟩)]⟩,
  ⟨[0, 2], [(1, ⟨18, [0, 1, 2, 3, 4, 5, 6, 7, 8, 9, 10, 11, 12, 13, 14, 15, 16, 17], [], [], [], []⟩)]⟩,
  ⟨[0, 1, 2, 10], []⟩,
  ⟨[0, 1, 2, 3, 4, 12, 13, 21, 22, 55, 58, 62, 63, 71, 72], [(10, ⟨5, [0, 1, 2, 3, 4, 5, 6, 7], [], [], [1], [26]⟩)]⟩,
  ⟨[0, 1, 4, 5, 10, 12, 13, 14, 24], [(6, ⟨9, [0, 1, 2, 3, 4, 5, 6, 7, 8], [], [], [], []⟩)]⟩,
  ⟨[0, 1, 2, 3, 4, 5, 6, 7, 8, 12], []⟩,
  ⟨[0, 2, 3, 5, 6, 7, 10, 11, 12, 13, 16, 17, 18], []⟩,
  ⟨[0, 1, 4, 5, 6, 12], [(5, ⟨9, [0, 1, 2, 3, 4, 5, 6, 7, 8, 9], [], [], [], []⟩)]⟩,
  ⟨[0, 2, 3, 5, 6, 7, 8, 9, 10, 11, 14, 15, 16], []⟩,
  ⟨[0, 2, 3, 5, 6, 7, 8, 9], []⟩,
  ⟨[0, 1, 4, 5, 6, 7, 17, 20], []⟩,
  ⟨[0, 1, 2, 4, 6, 7, 8, 9, 15, 21, 22, 23, 24], [(7, ⟨8, [0, 1, 2, 3, 4, 5, 6, 7, 8], [], [], [], []⟩), (9, ⟨7, [0, 1, 2, 3, 4, 5, 6, 7, 8, 9, 10], [43], [], [], []⟩)]⟩,
  ⟨[0, 1, 4, 5, 12, 24], []⟩,
  ⟨[0, 1, 2, 4], []⟩,
  ⟨[0, 1, 2, 4, 8], []⟩,
  ⟨[0, 1, 4, 5, 7, 8, 9, 16], []⟩,
  ⟨[0, 2], []⟩,
  ⟨[0, 2], []⟩,
  ⟨[0, 2], []⟩,
  ⟨[0, 2], []⟩,
  ⟨[0, 2, 3, 30, 40, 43, 49], [(2, ⟨27, [0, 1, 2, 3, 4, 5, 6, 7, 8, 9, 10, 11, 12, 13, 14, 15, 16, 17, 18, 19, 20, 21, 22, 23, 24, 25, 26], [], [], [], []⟩)]⟩,
  ⟨[0, 1, 3, 4], [(1, ⟨7, [0, 1, 2, 3, 4, 5, 6, 7, 8, 9, 10], [11], [], [], []⟩)]⟩,
  ⟨[0, 2, 4], []⟩,
  ⟨[0, 1, 2, 3, 4, 5, 6, 7], []⟩,
  ⟨[0, 2, 3, 4, 5, 6, 11, 22, 32, 42, 52, 90], [(4, ⟨10, [0, 1, 2, 3, 4, 5, 6, 7, 8, 9], [], [], [], []⟩), (14, ⟨29, [0, 1, 2, 3, 4, 5, 6, 7, 8, 9, 10, 11, 12, 13, 14, 15, 16, 17, 18, 19, 20, 21, 22, 23, 24, 25, 26, 27, 28], [], [], [], []⟩)]⟩,
  ⟨[0, 2, 3, 4, 14, 19, 24, 40, 72, 85, 105], [(1, ⟨10, [0, 1, 2, 3, 4, 5, 6, 7, 8, 9], [], [], [], []⟩), (9, ⟨30, [0, 1, 2, 3, 4, 5, 6, 7, 8, 9, 10, 11, 12, 13, 14, 15, 16, 17, 18, 19, 20, 21, 22, 23, 24, 25, 26, 27, 28, 29], [], [], [], []⟩)]⟩,
  ⟨[0, 2, 3, 4, 5, 6, 35, 57, 61, 63, 80, 116], [(5, ⟨15, [0, 1, 2, 3, 4, 5, 6, 7, 8, 9, 10, 11, 12, 13, 14], [], [], [], []⟩), (8, ⟨15, [0, 1, 2, 3, 4, 5, 6, 7, 8, 9, 10, 11, 12, 13, 14], [], [], [], []⟩), (15, ⟨10, [0, 1, 2, 3, 4, 5, 6, 7, 8, 9], [], [], [], []⟩)]⟩,
  ⟨[0, 2, 3, 8, 39], []⟩,
  ⟨[0, 2, 3, 4, 5, 6, 7, 8, 31, 65, 83, 99, 113, 116, 121], [(2, ⟨16, [0, 1, 2, 3, 4, 5, 6, 7, 8, 9, 10, 11, 12, 13, 14, 15], [], [], [], []⟩), (6, ⟨26, [0, 1, 2, 3, 4, 5, 6, 7, 8, 9, 10, 11, 12, 13, 14, 15, 16, 17, 18, 19, 20, 21, 22, 23, 24, 25], [], [], [], []⟩), (9, ⟨15, [0, 1, 2, 3, 4, 5, 6, 7, 8, 9, 10, 11, 12, 13, 14], [], [], [], []⟩)]⟩,
  ⟨[0, 1, 2, 3, 4, 7, 14], []⟩,
  ⟨[0, 2, 3, 4, 9], [(5, ⟨6, [0, 1, 2, 3, 4, 5, 6], [], [], [], []⟩)]⟩,
  ⟨[0, 2, 3, 29, 38, 57], [(3, ⟨15, [0, 1, 2, 3, 4, 5, 6, 7, 8, 9, 10, 11, 12, 13, 14], [], [], [], []⟩), (8, ⟨12, [0, 1, 2, 3, 4, 5, 6, 7, 8, 9, 10, 11], [], [], [], []⟩), (12, ⟨13, [0, 1, 2, 3, 4, 5, 6, 7, 8, 9, 10, 11, 12, 13, 14], [], [], [], []⟩)]⟩,
  ⟨[0, 1, 4, 5, 9, 16], []⟩,
  ⟨[0], []⟩,
  ⟨[0, 2, 3, 4, 5, 6, 7, 29, 32, 56, 59, 62, 65, 78, 120, 126], [(1, ⟨10, [0, 1, 2, 3, 4, 5, 6, 7, 8, 9], [], [], [], []⟩), (9, ⟨10, [0, 1, 2, 3, 4, 5, 6, 7, 8, 9], [], [], [], []⟩), (18, ⟨11, [0, 1, 2, 3, 4, 5, 6, 7, 8, 9, 10], [], [], [], []⟩), (21, ⟨11, [0, 1, 2, 3, 4, 5, 6, 7, 8, 9, 10], [], [], [], []⟩), (22, ⟨12, [0, 1, 2, 3, 4, 5, 6, 7, 8, 9, 10, 11], [], [], [], []⟩)]⟩,
  ⟨[0, 2, 3, 4, 23, 70], [(3, ⟨15, [0, 1, 2, 3, 4, 5, 6, 7, 8, 9, 10, 11, 12, 13, 14], [], [], [], []⟩), (4, ⟨16, [0, 1, 2, 3, 4, 5, 6, 7, 8, 9, 10, 11, 12, 13, 14, 15], [], [], [], []⟩)]⟩,
  ⟨[0, 2, 4, 21], [(4, ⟨10, [0, 1, 2, 3, 4, 5, 6, 7, 8, 9], [], [], [], []⟩)]⟩,
  ⟨[0, 1, 4, 5, 6, 13], []⟩,
  ⟨[0, 2, 3, 4, 5, 8, 14, 23], []⟩,
  ⟨[0, 2, 4, 13], []⟩,
  ⟨[], []⟩,
  ⟨[], []⟩,
  ⟨[], []⟩,
  ⟨[], []⟩,
  ⟨[], []⟩,
  ⟨[], []⟩,
  ⟨[], []⟩,
  ⟨[], []⟩,
  ⟨[], []⟩,
  ⟨[], []⟩,
  ⟨[], []⟩,
  ⟨[], []⟩,
  ⟨[], []⟩,
  ⟨[], []⟩,
  ⟨[], []⟩,
  ⟨[], []⟩,
  ⟨[], []⟩,
  ⟨[], []⟩,
  ⟨[], []⟩,
  ⟨[], []⟩]
def rtab : Nat → Tab := fun f => rtabs.getD f ⟨[], []⟩
theorem no_num : (Go.Proofs.Tryd.prog.funcs.all fun fn => !(fn.name == "runtime.NumGoroutine")) = true := by decide +kernel
theorem kn_none : KnOk Go.Proofs.Tryd.prog (fun _ => none) := fun _ _ _ _ h => by cases h
theorem ran_c {kn : Known1} (hkn : KnOk Go.Proofs.Tryd.prog kn) (fs : List Nat) (hfs : fs.all (fnOk Go.Proofs.Tryd.prog LL rtab) = true) (fuel k : Nat) {f : Nat} {args : List AVal} {v : AVal} (ha : args.all flat = true) (h : ran (xCall Go.Proofs.Tryd.prog LL rtab kn fuel fs k false f args [] 1000) = some v) : ACall Go.Proofs.Tryd.prog f args [] fun r s => r = v ∧ s = [] := run_c LL_ok mixed no_num rtab hkn fs hfs fuel k ha h
end Go.Rad
/- What is known of some calls by their contracts, for the run of closed calls. -/
namespace Go.Rad
open Go Go.Proofs
def kIn : List AVal → Option AVal
  | [.int .u8 c, .str l] => req (decide (0 ≤ c) && Nat.ble l.size 1000000) (some (.bool (inS c.toNat l)))
  | _ => none
def decB : List (List AVal) → Option (List Nat)
  | [] => some []
  | [.int .u8 n] :: l => req (decide (0 ≤ n) && decide (n ≤ 255)) ((decB l).map (n.toNat :: ·))
  | _ => none
theorem decB_ok : ∀ {l : List (List AVal)} {bs : List Nat}, decB l = some bs → l = bytesL bs ∧ ∀ x ∈ bs, x ≤ 255
  | [], bs, h => by cases h; exact ⟨rfl, fun _ h => by cases h⟩
  | x :: l, bs, h => by
    unfold decB at h
    split at h
    · rename_i h1; cases h1
    · rename_i n l' h1
      cases h1
      simp only [req_iff, Bool.and_eq_true, decide_eq_true_eq] at h
      obtain ⟨⟨h1, h2⟩, h⟩ := h
      obtain ⟨bs', h3, rfl⟩ := mp_some h
      obtain ⟨h4, h5⟩ := decB_ok h3
      refine ⟨?_, fun x hx => ?_⟩
      · rw [h4]; simp only [bytesL, List.map_cons]; rw [Int.toNat_of_nonneg h1]
      · rcases List.mem_cons.1 hx with rfl | hx
        · omega
        · exact h5 x hx
    · cases h
def decS : List (List AVal) → Option (List ISet)
  | [] => some []
  | [.int .u64 a, .int .u64 b, .int .u64 c, .int .u64 d] :: l => (decS l).map (⟨a, b, c, d⟩ :: ·)
  | _ => none
theorem decS_ok : ∀ {l : List (List AVal)} {ss : List ISet}, decS l = some ss → l = sets ss
  | [], bs, h => by cases h; rfl
  | x :: l, bs, h => by
    unfold decS at h
    split at h
    · rename_i h1; cases h1
    · rename_i a b c d l' h1
      cases h1
      obtain ⟨bs', h3, rfl⟩ := mp_some h
      rw [decS_ok h3]; rfl
    · cases h
def kOf : List AVal → Option AVal
  | [.sl _ _ l] => (decB l).bind fun bs => req (Nat.ble bs.length 1000000) (some (.agg (bs.foldl withI ISet.none).cells))
  | _ => none
def kRange : List AVal → Option AVal
  | [.int .u8 lo, .int .u8 hi] => req (decide (0 ≤ lo) && decide (lo ≤ 255) && decide (0 ≤ hi) && decide (hi ≤ 255)) (some (.agg (rangeI lo.toNat hi.toNat).cells))
  | _ => none
def kOr : List AVal → Option AVal
  | [.sl _ _ l] => (decS l).bind fun ss => req (Nat.ble ss.length 1000000) (some (.agg (orI ss).cells))
  | _ => none
def kNot : List AVal → Option AVal
  | [.agg [.int .u64 a, .int .u64 b, .int .u64 c, .int .u64 d]] => some (.agg (notI ⟨a, b, c, d⟩).cells)
  | _ => none
def kName : List AVal → Option AVal
  | [.str s] => req (Nat.ble s.size maxLen) (some (.bool (nameOk s)))
  | _ => none
/-- One function's calls, and what else is known. -/
def kAdd (f0 : Nat) (g : List AVal → Option AVal) (kn : Known1) : Known1 := fun f => match Nat.beq f f0 with | true => some g | false => kn f
theorem kAdd_ok {f0 : Nat} {g : List AVal → Option AVal} {kn : Known1} (h : ∀ args v, g args = some v → ACall Tryd.prog f0 args [] fun r s => r = v ∧ s = []) (hk : KnOk Tryd.prog kn) : KnOk Tryd.prog (kAdd f0 g kn) := by
  intro f g' args v hg hv
  unfold kAdd at hg
  split at hg
  · rename_i e; cases hg; rw [Nat.eq_of_beq_eq_true e]; exact h args v hv
  · exact hk f g' args v hg hv
def kn4 : Known1 := kAdd 67 kIn (kAdd 65 kOf (kAdd 72 kRange (kAdd 73 kOr (kAdd 64 kNot (kAdd 32 kName fun _ => none)))))
theorem kn4uok : KnOk Tryd.prog kn4 := by
  refine kAdd_ok (fun args v h => ?_) (kAdd_ok (fun args v h => ?_) (kAdd_ok (fun args v h => ?_) (kAdd_ok (fun args v h => ?_) (kAdd_ok (fun args v h => ?_) (kAdd_ok (fun args v h => ?_) kn_none)))))
  · unfold kIn at h
    split at h
    · rename_i c l
      simp only [req_iff, Bool.and_eq_true, decide_eq_true_eq, Nat.ble_eq, Option.some.injEq] at h
      obtain ⟨⟨h1, h2⟩, rfl⟩ := h
      have := in4uc c.toNat l h2
      rwa [Int.toNat_of_nonneg h1] at this
    · cases h
  · unfold kOf at h
    split at h
    · simp only [Option.bind_eq_some_iff, req_iff, Nat.ble_eq, Option.some.injEq] at h
      obtain ⟨bs, h1, h2, rfl⟩ := h
      obtain ⟨rfl, h3⟩ := decB_ok h1
      exact of_c _ _ bs h3 h2
    · cases h
  · unfold kRange at h
    split at h
    · rename_i lo hi
      simp only [req_iff, Bool.and_eq_true, decide_eq_true_eq, Option.some.injEq] at h
      obtain ⟨⟨⟨⟨h1, h2⟩, h3⟩, h4⟩, rfl⟩ := h
      have := range_c lo.toNat hi.toNat (by omega) (by omega)
      rwa [Int.toNat_of_nonneg h1, Int.toNat_of_nonneg h3] at this
    · cases h
  · unfold kOr at h
    split at h
    · simp only [Option.bind_eq_some_iff, req_iff, Nat.ble_eq, Option.some.injEq] at h
      obtain ⟨ss, h1, h2, rfl⟩ := h
      rw [decS_ok h1]
      exact or_c _ _ ss h2
    · cases h
  · unfold kNot at h
    split at h
    · cases h; exact not_c _ _ _ _
    · cases h
  · unfold kName at h
    split at h
    · simp only [req_iff, Nat.ble_eq, Option.some.injEq] at h
      obtain ⟨h1, rfl⟩ := h
      exact name4uc _ h1
    · cases h
/-- The reader of the document. -/
def fsR : List Nat := [20, 35, 36, 37, 55, 56, 59, 60, 61, 62, 63, 66, 69, 70, 71, 68, 54, 74]
theorem fsR_ok : fsR.all (fnOk Tryd.prog LL rtab) = true := by decide +kernel
theorem parse_run {s : ByteArray} {v : AVal} (h : ran (xCall Tryd.prog LL rtab kn4 10000 fsR 60 false 20 [.str s] [] 1000) = some v) : ACall Tryd.prog 20 [.str s] [] fun r s => r = v ∧ s = [] := ran_c kn4uok fsR fsR_ok _ _ rfl h
end Go.Rad
/- What the head of the statements of layer 6 reads, reckoned. -/
namespace Go.Rad
open Go Go.Proofs
abbrev tRef : ByteArray := ⟨#[123, 100, 125]⟩
abbrev tRefs : ByteArray := ⟨#[123, 100, 125, 43]⟩
abbrev tRefa : ByteArray := ⟨#[123, 100, 125, 97]⟩
abbrev tCls : ByteArray := ⟨#[91, 48, 45, 57, 93]⟩
abbrev tClss : ByteArray := ⟨#[91, 48, 45, 57, 93, 43]⟩
abbrev tD : ByteArray := ⟨#[100]⟩
abbrev nDig : Node := ⟨2, ⟨287948901175001088, 0, 0, 0⟩, [], 0, 0, ByteArray.empty⟩
abbrev nRep : Node := ⟨5, ⟨0, 0, 0, 0⟩, [0], 1, -1, ByteArray.empty⟩
abbrev nRefD : Node := ⟨6, ⟨0, 0, 0, 0⟩, [], 0, 0, tD⟩
abbrev nA : Node := ⟨2, ⟨0, 8589934592, 0, 0⟩, [], 0, 0, ByteArray.empty⟩
abbrev nCat : Node := ⟨3, ⟨0, 0, 0, 0⟩, [0, 1], 0, 0, ByteArray.empty⟩
theorem p6a : ACall Tryd.prog 20 [.str tRefs] [] fun r s => r = .tup [.sl true false (nodes [nRefD, nRep]), .int .i64 0, .int .i64 0] ∧ s = [] := parse_run (by kernel_rfl)
theorem p6b : ACall Tryd.prog 20 [.str tCls] [] fun r s => r = .tup [.sl true false (nodes [nDig]), .int .i64 0, .int .i64 0] ∧ s = [] := parse_run (by kernel_rfl)
theorem p6c : ACall Tryd.prog 20 [.str tClss] [] fun r s => r = .tup [.sl true false (nodes [nDig, nRep]), .int .i64 0, .int .i64 0] ∧ s = [] := parse_run (by kernel_rfl)
theorem p6d : ACall Tryd.prog 20 [.str tRef] [] fun r s => r = .tup [.sl true false (nodes [nRefD]), .int .i64 0, .int .i64 0] ∧ s = [] := parse_run (by kernel_rfl)
theorem p6e : ACall Tryd.prog 20 [.str tRefa] [] fun r s => r = .tup [.sl true false (nodes [nRefD, nA, nCat]), .int .i64 0, .int .i64 0] ∧ s = [] := parse_run (by kernel_rfl)
end Go.Rad
/- What the head of all statements of layer 6 computes. -/
namespace Go.Rad
open Go Go.Proofs
set_option linter.all false
set_option maxRecDepth 20000
set_option maxHeartbeats 4000000

theorem shown6uc : ACall Tryd.prog 7 [] [] fun r s => r = .bool true ∧ s = [] := by
  have r1 : rightS [nRefD, nRep] = true := by decide +kernel
  have r2 : rightS [nDig] = true := by decide +kernel
  have r4 : rightS [nRefD] = true := by decide +kernel
  have r5 : rightS [nRefD, nA, nCat] = true := by decide +kernel
  have x1 : expandS [nRefD, nRep] [⟨tD, [nDig]⟩] = ([nDig, nRep], 0) := by decide +kernel
  have x2 : (expandS [nRefD] [⟨tD, [nRefD, nA, nCat]⟩]).2 = 61 := by decide +kernel
  have y1 := expand_c true false true false [nRefD, nRep] [⟨tD, [nDig]⟩] (rightS_bounds r1) (by simp) (fun d hd => by simp only [List.mem_singleton] at hd; subst hd; exact ⟨(show tD.size ≤ maxLen by decide), rightS_bounds r2⟩)
  have y2 := expand_c true false true false [nRefD] [⟨tD, [nRefD, nA, nCat]⟩] (rightS_bounds r4) (by simp) (fun d hd => by simp only [List.mem_singleton] at hd; subst hd; exact ⟨(show tD.size ≤ maxLen by decide), rightS_bounds r5⟩)
  rw [x1] at y1
  rw [x2] at y2
  generalize (expandS [nRefD] [⟨tD, [nRefD, nA, nCat]⟩]).1 = z at y2
  have hsame := fun q f q' f' => same4uc q f q' f' [nDig, nRep] [nDig, nRep] (by decide) fun n h => by simp only [List.mem_cons, List.not_mem_nil, or_false] at h; rcases h with rfl | rfl <;> decide
  simp only [decide_true] at hsame
  have p1 := p6a
  have p2 := p6b
  have p3 := p6c
  have p4 := p6d
  have p5 := p6e
  rw [show defs [⟨tD, [nDig]⟩] = [[.str tD, .sl true false (nodes [nDig])]] from rfl] at y1
  rw [show defs [⟨tD, [nRefD, nA, nCat]⟩] = [[.str tD, .sl true false (nodes [nRefD, nA, nCat])]] from rfl] at y2
  clear r1 r2 r4 r5 x1 x2
  generalize nodes [nRefD, nRep] = a1 at p1 y1
  generalize nodes [nRefD, nA, nCat] = a5 at p5 y2
  generalize nodes [nDig, nRep] = a3 at p3 y1 hsame
  generalize nodes [nDig] = a2 at p2 y1
  generalize nodes [nRefD] = a4 at p4 y2
  refine ACall.enter Tryd.func7 rfl (by kernel_rfl) (Nat.le_of_ble_eq_true rfl) ?_; simp only [initTm, Nat.reduceAdd]
  repeat' (first
  | refine gSq ?_ | refine gSk ?_ | refine gBl ?_ | refine gIb ?_ | refine gEx rfl ?_
  | ((first
  | (refine gRg [49, 57] [0, 1, 4, 7, 10, 13, 16, 17, 19] ?_; intro K hK)
  | refine cAl (p1) rfl rfl rfl ?_
  | refine cAl (p2) rfl rfl rfl ?_
  | refine cAl (p3) rfl rfl rfl ?_
  | refine cAl (p4) rfl rfl rfl ?_
  | refine cAl (p5) rfl rfl rfl ?_
  | refine cAl (hsame _ _ _ _) rfl rfl rfl ?_
  | (refine ACall.use [] [] rfl y1 rfl rfl rfl ?_; rintro _ _ ⟨⟨fl, rfl⟩, rfl⟩; refine ⟨.inl rfl, rfl, ?_⟩; simp only [bk, bk1, bkS, delAll, List.map_cons, List.map_nil])
  | (refine ACall.use [] [] rfl y2 rfl rfl rfl ?_; rintro _ _ ⟨⟨fl2, rfl⟩, rfl⟩; refine ⟨.inl rfl, rfl, ?_⟩; simp only [bk, bk1, bkS, delAll, List.map_cons, List.map_nil])
  | (refine gd_split ?_ ?_ <;> intro hb <;> (try simp only [bls] at hb) <;> (try simp only [hb]))
  | refine gRt [] [.tmp 0] rfl ?_ | refine gDn [] [.tmp 0] rfl ?_) <;> (try simp only [go_sem, simprocAttr]))
  | (refine hK _ _ ?_; clear hK K; simp only [go_sem, simprocAttr])
  | refine gCd (by simp only [go_sem, simprocAttr]; rfl) rfl ?_
  | refine brT ?_ | refine brF ?_
  | (refine brS ?_ ?_ <;> intro hc <;> (try simp only [bls] at hc) <;> (try simp only [hc, bls]))
  | intro _ | refine And.intro ?_ ?_)
  all_goals first | omega | (unfold bigLen; omega) | exact ⟨_, _, ⟨rfl, rfl⟩, rfl⟩ | exact ⟨_, rfl⟩ | (rename_i hy; simp only [List.mem_singleton] at hy; subst hy; rfl) | skip
end Go.Rad
/- What the cards of this seat lean on: arguments by content, and the one variable that is tied. -/
namespace Go.Rad
open Go Go.Proofs
theorem node41 : NodeTy LL 41 := ⟨5, 38, 39, 3, 9, 36, rfl, rfl, rfl, rfl, rfl, rfl, rfl⟩
theorem def27 : DefTy LL 27 := ⟨9, 22, 41, rfl, rfl, rfl, node41⟩
theorem args6 {xs : List AVal} (h : typedAll LL [22, 23] xs) : ∃ l ds, xs = [.sl true false (nodes l), .sl true false (defs ds)] ∧ nodesOk l ∧ dfsOk ds ∧ (∀ n ∈ l, n.s.okI) ∧ ∀ d ∈ ds, ∀ n ∈ d.l, n.s.okI := by
  obtain ⟨x, r, rfl, h1, y, r2, rfl, h2, rfl⟩ := h
  obtain ⟨l, hl, a, b⟩ := ty_nodesF (k := 5) rfl node41 (ty_one rfl h1)
  obtain ⟨ds, hd, c, d⟩ := ty_defsF (k := 3) rfl def27 (ty_one rfl h2)
  simp only [List.cons.injEq, and_true] at hl hd
  subst hl hd
  exact ⟨l, ds, rfl, ⟨a, fun n hn => (b n hn).1⟩, ⟨c, fun x hx => ⟨(d x hx).1, (d x hx).2.1, fun n hn => ((d x hx).2.2 n hn).1⟩⟩, fun n hn => (b n hn).2, fun x hx n hn => ((d x hx).2.2 n hn).2⟩
theorem nodes6 {y : List AVal} {x : AVal} (hy : y = [x]) (h : typedP LL 22 x) : ∃ l, x = .sl true false (nodes l) ∧ nodesOk l ∧ ∀ n ∈ l, n.s.okI := by
  obtain ⟨l, hl, a, b⟩ := ty_nodesF (k := 5) rfl node41 (ty_one rfl h)
  simp only [List.cons.injEq, and_true] at hl
  exact ⟨l, hl, ⟨a, fun n hn => (b n hn).1⟩, fun n hn => (b n hn).2⟩
theorem args6one {xs : List AVal} (h : typedAll LL [22] xs) : ∃ l, xs = [.sl true false (nodes l)] ∧ nodesOk l ∧ ∀ n ∈ l, n.s.okI := by
  obtain ⟨x, r, rfl, h1, rfl⟩ := h
  obtain ⟨l, rfl, a, b⟩ := nodes6 rfl h1
  exact ⟨l, rfl, a, b⟩
theorem args6two {xs : List AVal} (h : typedAll LL [22, 22] xs) : ∃ l m, xs = [.sl true false (nodes l), .sl true false (nodes m)] ∧ nodesOk l ∧ nodesOk m ∧ (∀ n ∈ l, n.s.okI) ∧ ∀ n ∈ m, n.s.okI := by
  obtain ⟨x, r, rfl, h1, y, r2, rfl, h2, rfl⟩ := h
  obtain ⟨l, rfl, a, b⟩ := nodes6 rfl h1
  obtain ⟨m, rfl, c, d⟩ := nodes6 rfl h2
  exact ⟨l, m, rfl, a, c, b, d⟩
theorem own6 : ownKnob Tryd.prog.godebug = none := by kernel_rfl
theorem laidOut6 : laidOutB Tryd.prog = true := by kernel_rfl
theorem gTab : Tryd.prog.globalNamed "math/bits.deBruijn64tab" = some 0 := by kernel_rfl
theorem tTab : (Tryd.prog.globals[0]?).map (·.type) = some 87 := by kernel_rfl
theorem cT8 : Tryd.prog.cellsOf 5 = 1 := by kernel_rfl
theorem cTab : Tryd.prog.cellsOf 87 = 64 := by kernel_rfl
theorem bruijn_fits : ∀ x ∈ bruijn, fits .u8 x := by
  have m1 : IntKind.u8.min = 0 := by kernel_rfl
  have m2 : IntKind.u8.max = 255 := by kernel_rfl
  have : ∀ x ∈ bruijn, 0 ≤ x ∧ x ≤ 255 := by decide
  intro x hx
  unfold fits
  rw [m1, m2]; exact this x hx
theorem globIn_of {W : World} (h : Lib.TabIs Tryd.prog W "math/bits.deBruijn64tab" .u8 bruijn) : GlobIn W := by
  intro g l hg
  unfold globU8 at hg
  split at hg
  · rename_i e
    subst e
    cases hg
    unfold Lib.TabIs World.var? at h
    rw [gTab] at h
    simp only [Option.bind_some] at h
    split at h
    · rename_i cs e fr hh
      obtain rfl := Option.some.inj h
      refine .ref (.inl trivial) (e := e) (fr := fr) (c := (bruijn.map fun z => Value.int .u8 z).toArray) hh (by simp [globC]) (fun j x hx => ?_) (fun j x hx => ?_)
      · simp only [globC, List.getElem?_map] at hx
        obtain ⟨y, _, rfl⟩ := Option.map_eq_some_iff.1 hx
        rfl
      · simp only [globC, List.getElem?_map] at hx
        obtain ⟨y, hy, rfl⟩ := Option.map_eq_some_iff.1 hx
        have e2 : ((bruijn.map fun z => Value.int .u8 z).toArray).getD (0 + j) undef = .int .u8 y := by
          simp [Array.getD_eq_getD_getElem?, hy]
        rw [e2]
        exact .int (bruijn_fits y (List.mem_of_getElem? hy))
    · cases h
  · cases hg
end Go.Rad
namespace Go.Proofs.YtejdlelhlpnabaaDoor
open Go Go.Rad
theorem globIn6 {W : World} (h : laidMetH Tryd.prog [("math/bits.deBruijn64tab", Rows.laid_math_bits_deBruijn64tab)] W) : GlobIn W := by
  rw [MakeChecks.laidMetH_plain _ _ _ (by kernel_rfl)] at h
  exact globIn_of (Lib.tabIs_of_head (zs := bruijn) (rest := []) gTab tTab Tryd.underlying87 Tryd.underlying5 cT8 cTab h)
theorem door_met (os : Os) (args : Array Value) : laidMetH Tryd.prog [("math/bits.deBruijn64tab", Rows.laid_math_bits_deBruijn64tab)] ((World.doorLaid Tryd.prog 14 os).forCall (fun _ _ => 0) ⟨#[], args, []⟩).memory :=
  laidMetH_of_parts3 (fuel := 8) (laidMet_of_run' 8 (by kernel_rfl) (by kernel_rfl)) (by kernel_rfl) (by kernel_rfl)
end Go.Proofs.YtejdlelhlpnabaaDoor
