/- A part of the proof. -/
import Derived.Test.YtmbhpolhiblhoaaGreatDoorKRRun
import Derived.Test.YtmbhpolhiblhoaaGreatDoorKRDraw
import Derived.Test.YtmbhpolhiblhoaaGreatDoorKRGlob
import Derived.Test.YtmbhpolhiblhoaaGreatDoorKRDefer
import Derived.Test.YtmbhpolhiblhoaaGreatDoorKP17i
import Derived.Test.YtmbhpolhiblhoaaGreatDoorKC05a
import Derived.Test.YtmbhpolhiblhoaaGreatDoorKC03c
import Derived.Test.YtmbhpolhiblhoaaGreatDoorCards
import Derived.Test.YtmbhpolhiblhoaaGreatDoorTie
import Derived.Test.YtmbhpolhiblhoaaGreatDoorKP07g
import Derived.Lib.LaidTab
import Derived.LaidMore
set_option linter.all false
namespace Go.Rad
open Go
variable {P : Program} {L : Lay}
theorem tt : Quiet P := fun f args v sto h1 h2 h3 h4 => ah.alone (ah.none h4) (fV fun x hx => wR (List.all_eq_true.1 h1 x hx)) (vT h2) h3
def sI : aa → List aa
 | .tup vs => vs
 | v => [v]
def BC : Nat → aa → Sto → Option aa
 | 0, v, _ => some v
 | k + 1, v, s =>
  match jZ (sI v) with
  | none => some v
  | some id =>
   match ak s id with
   | some (g, .row _ l) => req (u1 id g l.length v && ph id g l.length (cf s id)) (BC k (rf id g l v) (rfS id g l (cf s id)))
   | _ => none
theorem sK {E : Gh} {R : aa → Prop} {e : Ending} {w' : World} {r : Nat → Nat} : ∀ (k : Nat) {v v' : aa} {s : Sto}, BC k v s = some v' → R (mg r v') → fD E (fun v1 s1 => v1 = mg r v ∧ s1 = mgS r s) e w' → fD E (fun v1 _ => R v1) e w'
 | 0, v, v', s, h, hR, hp => by
  simp only [BC, Option.some.injEq] at h; subst h
  exact hp.mono (.refl E) fun _ _ hx => by rw [hx.1]; exact hR
 | k + 1, v, v', s, h, hR, ⟨G', cr, r1, s1, h1, h2, h3, h4, h5, h6, h7⟩ => by
  simp only [BC] at h
  split at h
  ·cases h; exact ⟨G', cr, r1, s1, h1, h2, h3, h4, h5, by rw [h6]; exact hR⟩
  ·split at h
   ·rename_i g esz l hg
    simp only [aj, Bool.and_eq_true] at h
    obtain ⟨⟨hk1, hk2⟩, h⟩ := h
    subst h6 h7
    obtain ⟨G2, q1, q2, q3, q4⟩ := fZ (g := r g) (esz := esz) (l := l) h3 h4 (by rw [aZ, hg]; rfl)
    refine sK k h hR ⟨G2, cr, _, _, h1, h2.trans q1, q2, q3, q4 _ _ h5, AL hk1, ?_⟩
    rw [← fc, ← jH _ hk2]
   ·cases h
def lB : Sto → List Nat
 | [] => []
 | (i, _, .row _ _) :: s => i :: lB s
 | _ :: s => lB s
theorem kG {r : Nat → Nat} {keep : List Nat} : ∀ s : Sto, mgS r (cB keep s) = cB keep (mgS r s)
 | [] => rfl
 | (i, g, o) :: s => by
  have ih := kG (r := r) (keep := keep) s
  simp only [ao, mgS]
  split
  ·simp only [mgS, ih]
  ·exact ih
def ran (x : Option (aa × Sto × Nat)) : Option aa := x.bind fun x => (BC 4 x.1 (cB (lB x.2.1) x.2.1)).bind fun v => req (flat v) (some v)
theorem MC (hL : LOk P L) (hm : P.follows .mixedOrders = true) (hn : (P.funcs.all fun fn => !(fn.name == "runtime.NumGoroutine")) = true) (tab : Nat → Tab) {kn : ej} (hkn : qz P kn) (fs : List Nat) (hfs : fs.all (xx P L tab) = true) (fuel k : Nat) {f : Nat} {args : List aa} {v : aa} (ha : args.all flat = true) (h : ran (mi P L tab kn fuel fs k false f args [] 1000) = some v) :
  ah P f args [] fun r s => r = v ∧ s = [] := by
 simp only [ran, Option.bind_eq_some_iff, aj, Option.some.injEq] at h
 obtain ⟨⟨u, s, n⟩, h1, u', h2, h3, rfl⟩ := h
 have h4 := (oV hL hm hn tt hkn hfs k false f args [] 1000 _ _ _ h1).2.2 id
 rw [fV fun x hx => cN (eB (List.all_eq_true.1 ha x hx))] at h4
 refine ah.none ⟨h4.able, fun G w cargs a b c => (h4.calls G w cargs a b c).mono fun e w' p => ?_⟩
 obtain ⟨G', cr, r1, s1, x1, x2, x3, x4, x5, r', _, rfl, rfl⟩ := p
 exact sK (R := fun r => r = u') 4 h2 (cN (eB h3)) ⟨G', cr, _, _, x1, x2, x3, fi (lB s) x4, x5, rfl, (kG s).symm⟩
end Go.Rad
namespace Go.Rad
open Go
def MB : List Tab := [
 ⟨[], []⟩,
 ⟨[], []⟩,
 ⟨[], []⟩,
 ⟨[], []⟩,
 ⟨[], []⟩,
 ⟨[], []⟩,
 ⟨[], []⟩,
 ⟨[], []⟩,
 ⟨[], []⟩,
 ⟨[], []⟩,
 ⟨[], []⟩,
 ⟨[], []⟩,
 ⟨[], []⟩,
 ⟨[], []⟩,
 ⟨[], []⟩,
 ⟨[], []⟩,
 ⟨[], []⟩,
 ⟨[], []⟩,
 ⟨[], []⟩,
 ⟨[], []⟩,
 ⟨[], []⟩,
 ⟨[], []⟩,
 ⟨[], []⟩,
 ⟨[], []⟩,
 ⟨[], []⟩,
 ⟨[], []⟩,
 ⟨[], []⟩,
 ⟨[], []⟩,
 ⟨[], []⟩,
 ⟨fp29, [(8, ⟨11, [0, 1, 2, 3, 4, 5, 6, 7, 8, 9, 10], [], [], [], []⟩)]⟩,
 ⟨fp30, [(13, ⟨11, [0, 1, 2, 3, 4, 5, 6, 7, 8, 9, 10], [], [], [], []⟩)]⟩,
 ⟨[], []⟩,
 ⟨[], []⟩,
 ⟨[], []⟩,
 ⟨[], []⟩,
 ⟨[], []⟩,
 ⟨[], []⟩,
 ⟨[], []⟩,
 ⟨[], []⟩,
 ⟨[], []⟩,
 ⟨fp40, []⟩,
 ⟨[], []⟩,
 ⟨[], []⟩,
 ⟨[], []⟩,
 ⟨[], []⟩,
 ⟨[], []⟩,
 ⟨[], []⟩,
 ⟨[], []⟩,
 ⟨fp48, [(2, ⟨15, [0, 1, 2, 3, 4, 5, 6, 7, 8, 9, 10, 11, 12, 13, 14], [], [], [], []⟩)]⟩,
 ⟨fp49, [(1, ⟨18, [0, 1, 2, 3, 4, 5, 6, 7, 8, 9, 10, 11, 12, 13, 14, 15, 16, 17], [], [], [], []⟩)]⟩,
 ⟨fp50, []⟩,
 ⟨[], []⟩,
 ⟨[], []⟩,
 ⟨[], []⟩,
 ⟨[], []⟩,
 ⟨[], []⟩,
 ⟨[], []⟩,
 ⟨[], []⟩,
 ⟨[], []⟩,
 ⟨fp59, []⟩,
 ⟨fp60, []⟩,
 ⟨fp61, [(7, ⟨12, [0, 1, 2, 3, 4, 5, 6, 7, 8, 9, 10, 11, 12, 13], [37], [], [], []⟩), (9, ⟨11, [0, 1, 2, 3, 4, 5, 6, 7, 8, 9, 10, 11, 12], [51], [], [], []⟩)]⟩,
 ⟨fp62, [(9, ⟨14, [0, 1, 2, 3, 4, 5, 6, 7, 8, 9, 10, 11, 12, 13], [], [], [], []⟩), (11, ⟨14, [0, 1, 2, 3, 4, 5, 6, 7, 8, 9, 10, 11, 12, 13, 14, 15, 16, 17, 18, 19, 20, 21], [73], [], [0, 4], [61, 65]⟩)]⟩,
 ⟨fp63, [(8, ⟨9, [0, 1, 2, 3, 4, 5, 6, 7, 8, 9, 10], [], [], [], []⟩), (10, ⟨11, [0, 1, 2, 3, 4, 5, 6, 7, 8, 9, 10, 11, 12, 13, 14, 15], [64], [], [], []⟩)]⟩,
 ⟨fp64, [(6, ⟨8, [0, 1, 2, 3, 5, 6, 7, 8, 4, 9, 10, 11], [], [], [4], [33]⟩), (19, ⟨8, [0, 1, 2, 3, 4, 5, 6, 7, 8, 9, 10, 11, 12], [81], [], [], []⟩)]⟩,
 ⟨fp65, []⟩,
 ⟨[], []⟩,
 ⟨[], []⟩,
 ⟨fp68, []⟩,
 ⟨fp69, []⟩,
 ⟨[], []⟩,
 ⟨[], []⟩,
 ⟨[], []⟩,
 ⟨[], []⟩,
 ⟨[], []⟩,
 ⟨[], []⟩,
 ⟨[], []⟩,
 ⟨fp77, [(2, ⟨27, [0, 1, 2, 3, 4, 5, 6, 7, 8, 9, 10, 11, 12, 13, 14, 15, 16, 17, 18, 19, 20, 21, 22, 23, 24, 25, 26], [], [], [], []⟩)]⟩,
 ⟨fp78, [(1, ⟨7, [0, 1, 2, 3, 4, 5, 6, 7, 8, 9, 10], [11], [], [], []⟩)]⟩,
 ⟨[], []⟩,
 ⟨[], []⟩,
 ⟨[], []⟩,
 ⟨[], []⟩,
 ⟨[], []⟩,
 ⟨[], []⟩,
 ⟨[], []⟩,
 ⟨fp86, []⟩,
 ⟨fp87, []⟩,
 ⟨fp88, []⟩,
 ⟨fp89, [(11, ⟨9, [0, 1, 2, 3, 4, 5, 6, 7, 8, 9, 10], [], [], [], []⟩)]⟩,
 ⟨fp90, [(12, ⟨8, [0, 1, 2, 3, 4, 5, 6, 7, 8, 9], [], [], [], []⟩)]⟩,
 ⟨[], []⟩,
 ⟨[], []⟩,
 ⟨[], []⟩,
 ⟨[], []⟩,
 ⟨[], []⟩,
 ⟨[], []⟩,
 ⟨[], []⟩,
 ⟨[], []⟩,
 ⟨[], []⟩,
 ⟨[], []⟩,
 ⟨[], []⟩,
 ⟨[], []⟩,
 ⟨[], []⟩,
 ⟨[], []⟩,
 ⟨[], []⟩,
 ⟨fp106, [(4, ⟨10, [0, 1, 2, 3, 4, 5, 6, 7, 8, 9], [], [], [], []⟩), (14, ⟨29, [0, 1, 2, 3, 4, 5, 6, 7, 8, 9, 10, 11, 12, 13, 14, 15, 16, 17, 18, 19, 20, 21, 22, 23, 24, 25, 26, 27, 28], [], [], [], []⟩)]⟩,
 ⟨[], []⟩,
 ⟨[], []⟩,
 ⟨[], []⟩,
 ⟨[], []⟩,
 ⟨[], []⟩,
 ⟨[], []⟩,
 ⟨[], []⟩,
 ⟨[], []⟩,
 ⟨[], []⟩,
 ⟨fp116, [(7, ⟨17, [0, 1, 2, 3, 4, 5, 6, 7, 8, 9, 10, 11, 12, 13, 14, 15, 16, 17], [], [], [], []⟩)]⟩,
 ⟨[], []⟩,
 ⟨[], []⟩,
 ⟨[], []⟩,
 ⟨[], []⟩,
 ⟨[], []⟩,
 ⟨[], []⟩,
 ⟨[], []⟩,
 ⟨[], []⟩,
 ⟨[], []⟩,
 ⟨[], []⟩,
 ⟨[], []⟩,
 ⟨[], []⟩,
 ⟨[], []⟩,
 ⟨[], []⟩,
 ⟨[], []⟩,
 ⟨[], []⟩,
 ⟨fp133, [(1, ⟨10, [0, 1, 2, 3, 4, 5, 6, 7, 8, 9], [], [], [], []⟩), (9, ⟨30, [0, 1, 2, 3, 4, 5, 6, 7, 8, 9, 10, 11, 12, 13, 14, 15, 16, 17, 18, 19, 20, 21, 22, 23, 24, 25, 26, 27, 28, 29], [], [], [], []⟩)]⟩,
 ⟨fp134, [(5, ⟨15, [0, 1, 2, 3, 4, 5, 6, 7, 8, 9, 10, 11, 12, 13, 14], [], [], [], []⟩), (8, ⟨15, [0, 1, 2, 3, 4, 5, 6, 7, 8, 9, 10, 11, 12, 13, 14], [], [], [], []⟩), (15, ⟨10, [0, 1, 2, 3, 4, 5, 6, 7, 8, 9], [], [], [], []⟩)]⟩,
 ⟨[], []⟩,
 ⟨[], []⟩,
 ⟨[], []⟩,
 ⟨[], []⟩,
 ⟨[], []⟩,
 ⟨[], []⟩,
 ⟨[], []⟩,
 ⟨[], []⟩,
 ⟨[], []⟩,
 ⟨[], []⟩,
 ⟨[], []⟩,
 ⟨[], []⟩,
 ⟨[], []⟩,
 ⟨[], []⟩,
 ⟨[], []⟩,
 ⟨fp150, []⟩,
 ⟨fp151, [(2, ⟨16, [0, 1, 2, 3, 4, 5, 6, 7, 8, 9, 10, 11, 12, 13, 14, 15], [], [], [], []⟩), (6, ⟨26, [0, 1, 2, 3, 4, 5, 6, 7, 8, 9, 10, 11, 12, 13, 14, 15, 16, 17, 18, 19, 20, 21, 22, 23, 24, 25], [], [], [], []⟩), (9, ⟨15, [0, 1, 2, 3, 4, 5, 6, 7, 8, 9, 10, 11, 12, 13, 14], [], [], [], []⟩)]⟩,
 ⟨[], []⟩,
 ⟨[], []⟩,
 ⟨fp154, [(3, ⟨15, [0, 1, 2, 3, 4, 5, 6, 7, 8, 9, 10, 11, 12, 13, 14], [], [], [], []⟩), (8, ⟨12, [0, 1, 2, 3, 4, 5, 6, 7, 8, 9, 10, 11], [], [], [], []⟩), (12, ⟨13, [0, 1, 2, 3, 4, 5, 6, 7, 8, 9, 10, 11, 12, 13, 14], [], [], [], []⟩)]⟩,
 ⟨fp155, []⟩,
 ⟨fp156, []⟩,
 ⟨fp157, [(1, ⟨10, [0, 1, 2, 3, 4, 5, 6, 7, 8, 9], [], [], [], []⟩), (9, ⟨10, [0, 1, 2, 3, 4, 5, 6, 7, 8, 9], [], [], [], []⟩), (18, ⟨11, [0, 1, 2, 3, 4, 5, 6, 7, 8, 9, 10], [], [], [], []⟩), (21, ⟨11, [0, 1, 2, 3, 4, 5, 6, 7, 8, 9, 10], [], [], [], []⟩), (22, ⟨12, [0, 1, 2, 3, 4, 5, 6, 7, 8, 9, 10, 11], [], [], [], []⟩)]⟩,
 ⟨fp158, [(3, ⟨15, [0, 1, 2, 3, 4, 5, 6, 7, 8, 9, 10, 11, 12, 13, 14], [], [], [], []⟩), (4, ⟨16, [0, 1, 2, 3, 4, 5, 6, 7, 8, 9, 10, 11, 12, 13, 14, 15], [], [], [], []⟩)]⟩,
 ⟨[], []⟩,
 ⟨[], []⟩,
 ⟨[], []⟩,
 ⟨[], []⟩,
 ⟨[], []⟩,
 ⟨[], []⟩,
 ⟨[], []⟩,
 ⟨[], []⟩,
 ⟨[], []⟩,
 ⟨[], []⟩,
 ⟨[], []⟩,
 ⟨[], []⟩,
 ⟨fp171, [(4, ⟨10, [0, 1, 2, 3, 4, 5, 6, 7, 8, 9], [], [], [], []⟩)]⟩,
 ⟨[], []⟩,
 ⟨[], []⟩,
 ⟨fp174, []⟩,
 ⟨[], []⟩,
 ⟨[], []⟩,
 ⟨[], []⟩,
 ⟨[], []⟩,
 ⟨[], []⟩,
 ⟨[], []⟩,
 ⟨[], []⟩,
 ⟨[], []⟩,
 ⟨[], []⟩,
 ⟨[], []⟩,
 ⟨[], []⟩,
 ⟨[], []⟩,
 ⟨[], []⟩,
 ⟨[], []⟩,
 ⟨[], []⟩,
 ⟨[], []⟩,
 ⟨[], []⟩,
 ⟨[], []⟩,
 ⟨[], []⟩,
 ⟨[], []⟩,
 ⟨[], []⟩,
 ⟨[], []⟩,
 ⟨[], []⟩,
 ⟨[], []⟩,
 ⟨[], []⟩,
 ⟨[], []⟩,
 ⟨[], []⟩,
 ⟨[], []⟩,
 ⟨[], []⟩,
 ⟨[], []⟩,
 ⟨[], []⟩,
 ⟨[], []⟩,
 ⟨[], []⟩,
 ⟨[], []⟩,
 ⟨[], []⟩,
 ⟨[], []⟩,
 ⟨[], []⟩,
 ⟨[], []⟩,
 ⟨[], []⟩,
 ⟨[], []⟩,
 ⟨[], []⟩,
 ⟨[], []⟩,
 ⟨[], []⟩,
 ⟨[], []⟩,
 ⟨[], []⟩,
 ⟨[], []⟩,
 ⟨[], []⟩,
 ⟨[], []⟩,
 ⟨[], []⟩,
 ⟨[], []⟩,
 ⟨[], []⟩,
 ⟨[], []⟩,
 ⟨[], []⟩,
 ⟨[], []⟩,
 ⟨[], []⟩,
 ⟨[], []⟩,
 ⟨[], []⟩,
 ⟨[], []⟩,
 ⟨[], []⟩,
 ⟨[], []⟩,
 ⟨[], []⟩,
 ⟨[], []⟩,
 ⟨[], []⟩,
 ⟨[], []⟩,
 ⟨[], []⟩,
 ⟨[], []⟩,
 ⟨[], []⟩,
 ⟨[], []⟩,
 ⟨[], []⟩]
def vb : Nat → Tab := fun f => MB.getD f ⟨[], []⟩
theorem Ap : (Go.Proofs.Tryz.prog.funcs.all fun fn => !(fn.name == "runtime.NumGoroutine")) = true := by decide +kernel
theorem CU : qz Go.Proofs.Tryz.prog (fun _ => none) := fun _ _ _ _ h => by cases h
theorem My {kn : ej} (hkn : qz Go.Proofs.Tryz.prog kn) (fs : List Nat) (hfs : fs.all (xx Go.Proofs.Tryz.prog LL vb) = true) (fuel k : Nat) {f : Nat} {args : List aa} {v : aa} (ha : args.all flat = true) (h : ran (mi Go.Proofs.Tryz.prog LL vb kn fuel fs k false f args [] 1000) = some v) : ah Go.Proofs.Tryz.prog f args [] fun r s => r = v ∧ s = [] := MC gY mixed Ap vb hkn fs hfs fuel k ha h
end Go.Rad
namespace Go.Rad
open Go Go.Proofs
def kIn : List aa → Option aa
 | [.int .u8 c, .str l] => req (decide (0 ≤ c) && Nat.ble l.size 1000000) (some (.bool (inS c.toNat l)))
 | _ => none
def B8 : List (List aa) → Option (List Nat)
 | [] => some []
 | [.int .u8 n] :: l => req (decide (0 ≤ n) && decide (n ≤ 255)) ((B8 l).map (n.toNat :: ·))
 | _ => none
theorem vU : ∀ {l : List (List aa)} {bs : List Nat}, B8 l = some bs → l = ct bs ∧ ∀ x ∈ bs, x ≤ 255
 | [], bs, h => by cases h; exact ⟨rfl, fun _ h => by cases h⟩
 | x :: l, bs, h => by
  unfold B8 at h
  split at h
  ·rename_i h1; cases h1
  ·rename_i n l' h1
   cases h1
   simp only [aj, Bool.and_eq_true, decide_eq_true_eq] at h
   obtain ⟨⟨h1, h2⟩, h⟩ := h
   obtain ⟨bs', h3, rfl⟩ := aC h
   obtain ⟨h4, h5⟩ := vU h3
   refine ⟨?_, fun x hx => ?_⟩
   ·rw [h4]; simp only [ct, List.map_cons]; rw [Int.toNat_of_nonneg h1]
   ·rcases List.mem_cons.1 hx with rfl | hx
    ·omega
    ·exact h5 x hx
  ·cases h
def Ca : List (List aa) → Option (List aw)
 | [] => some []
 | [.int .u64 a, .int .u64 b, .int .u64 c, .int .u64 d] :: l => (Ca l).map (⟨a, b, c, d⟩ :: ·)
 | _ => none
theorem vW : ∀ {l : List (List aa)} {ss : List aw}, Ca l = some ss → l = DJ ss
 | [], bs, h => by cases h; rfl
 | x :: l, bs, h => by
  unfold Ca at h
  split at h
  ·rename_i h1; cases h1
  ·rename_i a b c d l' h1
   cases h1
   obtain ⟨bs', h3, rfl⟩ := aC h
   rw [vW h3]; rfl
  ·cases h
def kOf : List aa → Option aa
 | [.sl _ _ l] => (B8 l).bind fun bs => req (Nat.ble bs.length 1000000) (some (.agg (bs.foldl cC aw.none).cells))
 | _ => none
def zU : List aa → Option aa
 | [.int .u8 lo, .int .u8 hi] => req (decide (0 ≤ lo) && decide (lo ≤ 255) && decide (0 ≤ hi) && decide (hi ≤ 255)) (some (.agg (u9 lo.toNat hi.toNat).cells))
 | _ => none
def kOr : List aa → Option aa
 | [.sl _ _ l] => (Ca l).bind fun ss => req (Nat.ble ss.length 1000000) (some (.agg (orI ss).cells))
 | _ => none
def kNot : List aa → Option aa
 | [.agg [.int .u64 a, .int .u64 b, .int .u64 c, .int .u64 d]] => some (.agg (Jg ⟨a, b, c, d⟩).cells)
 | _ => none
def Ev : List aa → Option aa
 | [.str s] => req (Nat.ble s.size maxLen) (some (.bool (bo s)))
 | _ => none
def qX (f0 : Nat) (g : List aa → Option aa) (kn : ej) : ej := fun f => match Nat.beq f f0 with | true => some g | false => kn f
theorem gr {f0 : Nat} {g : List aa → Option aa} {kn : ej} (h : ∀ args v, g args = some v → ah Tryz.prog f0 args [] fun r s => r = v ∧ s = []) (hk : qz Tryz.prog kn) : qz Tryz.prog (qX f0 g kn) := by
 intro f g' args v hg hv
 unfold qX at hg
 split at hg
 ·rename_i e; cases hg; rw [Nat.eq_of_beq_eq_true e]; exact h args v hv
 ·exact hk f g' args v hg hv
def kn4 : ej := qX 155 kIn (qX 153 kOf (qX 172 zU (qX 173 kOr (qX 152 kNot (qX 40 Ev fun _ => none)))))
theorem IT : qz Tryz.prog kn4 := by
 refine gr (fun args v h => ?_) (gr (fun args v h => ?_) (gr (fun args v h => ?_) (gr (fun args v h => ?_) (gr (fun args v h => ?_) (gr (fun args v h => ?_) CU)))))
 ·unfold kIn at h
  split at h
  ·rename_i c l
   simp only [aj, Bool.and_eq_true, decide_eq_true_eq, Nat.ble_eq, Option.some.injEq] at h
   obtain ⟨⟨h1, h2⟩, rfl⟩ := h
   have := L0 c.toNat l h2
   rwa [Int.toNat_of_nonneg h1] at this
  ·cases h
 ·unfold kOf at h
  split at h
  ·simp only [Option.bind_eq_some_iff, aj, Nat.ble_eq, Option.some.injEq] at h
   obtain ⟨bs, h1, h2, rfl⟩ := h
   obtain ⟨rfl, h3⟩ := vU h1
   exact of_c _ _ bs h3 h2
  ·cases h
 ·unfold zU at h
  split at h
  ·rename_i lo hi
   simp only [aj, Bool.and_eq_true, decide_eq_true_eq, Option.some.injEq] at h
   obtain ⟨⟨⟨⟨h1, h2⟩, h3⟩, h4⟩, rfl⟩ := h
   have := DC lo.toNat hi.toNat (by omega) (by omega)
   rwa [Int.toNat_of_nonneg h1, Int.toNat_of_nonneg h3] at this
  ·cases h
 ·unfold kOr at h
  split at h
  ·simp only [Option.bind_eq_some_iff, aj, Nat.ble_eq, Option.some.injEq] at h
   obtain ⟨ss, h1, h2, rfl⟩ := h
   rw [vW h1]
   exact or_c _ _ ss h2
  ·cases h
 ·unfold kNot at h
  split at h
  ·cases h; exact Mk _ _ _ _
  ·cases h
 ·unfold Ev at h
  split at h
  ·simp only [aj, Nat.ble_eq, Option.some.injEq] at h
   obtain ⟨h1, rfl⟩ := h
   exact ke _ h1
  ·cases h
def fsR : List Nat := [29, 48, 49, 50, 77, 78, 106, 133, 134, 150, 151, 154, 157, 158, 171, 156, 69, 174]
end Go.Rad
namespace Go.Rad
open Go Go.Proofs
theorem zm (q f : Bool) (l : List Int) (hl : l.length ≤ 1000000) : ah Tryz.prog 82 [.sl q f (ints l)] [] fun r s => r = .sl true false (ints l) ∧ s = [] := by
 refine (my q f l hl).nN ?_
 rintro r s (⟨rfl, rfl, rfl⟩ | ⟨h, rfl, rfl⟩)
 ·exact .inr (.inl ⟨_, _, _, rfl, rfl, rfl⟩)
 ·exact .inl ⟨5, h, 1, ints l, by simp, rfl, rfl, rfl⟩
def B9 : List (List aa) → Option (List Int)
 | [] => some []
 | [.int .i64 n] :: l => (B9 l).map (n :: ·)
 | _ => none
theorem vV : ∀ {l : List (List aa)} {bs : List Int}, B9 l = some bs → l = ints bs
 | [], bs, h => by cases h; rfl
 | x :: l, bs, h => by
  unfold B9 at h
  split at h
  ·rename_i h1; cases h1
  ·rename_i n l' h1
   cases h1
   obtain ⟨bs', h3, rfl⟩ := aC h
   rw [vV h3]; rfl
  ·cases h
def zT : List aa → Option aa
 | [.sl _ _ l] => (B9 l).bind fun bs => req (Nat.ble bs.length 1000000) (some (.sl true false (ints bs)))
 | _ => none
def IS : ej := qX 82 zT kn4
theorem we : qz Tryz.prog IS := by
 refine gr (fun args v h => ?_) IT
 unfold zT at h
 split at h
 ·simp only [Option.bind_eq_some_iff, aj, Nat.ble_eq, Option.some.injEq] at h
  obtain ⟨bs, h1, h2, rfl⟩ := h
  rw [vV h1]
  exact zm _ _ _ h2
 ·cases h
end Go.Rad
namespace Go.Rad
open Go
variable {P : Program} {L : Lay}
def um : Nat → aa → Sto → Option (aa × Sto)
 | 0, v, s => some (v, s)
 | k + 1, v, s =>
  match jZ (sI v) with
  | none => some (v, s)
  | some id =>
   match ak s id with
   | some (g, .row _ l) => req (u1 id g l.length v && ph id g l.length (cf s id)) (um k (rf id g l v) (rfS id g l (cf s id)))
   | _ => none
theorem sJ {E : Gh} {e : Ending} {w' : World} {r : Nat → Nat} : ∀ (k : Nat) {v v' : aa} {s s' : Sto}, um k v s = some (v', s') → fD E (fun v1 s1 => v1 = mg r v ∧ s1 = mgS r s) e w' → fD E (fun v1 s1 => v1 = mg r v' ∧ s1 = mgS r s') e w'
 | 0, v, v', s, s', h, hp => by
  simp only [um, Option.some.injEq, Prod.mk.injEq] at h; obtain ⟨rfl, rfl⟩ := h
  exact hp
 | k + 1, v, v', s, s', h, hp => by
  simp only [um] at h
  split at h
  ·cases h; exact hp
  ·obtain ⟨G', cr, r1, s1, h1, h2, h3, h4, h5, h6, h7⟩ := hp
   split at h
   ·rename_i id _ g esz l hg
    simp only [aj, Bool.and_eq_true] at h
    obtain ⟨⟨hk1, hk2⟩, h⟩ := h
    subst h6 h7
    obtain ⟨G2, q1, q2, q3, q4⟩ := fZ (g := r g) (esz := esz) (l := l) h3 h4 (by rw [aZ, hg]; rfl)
    refine sJ k h ⟨G2, cr, _, _, h1, h2.trans q1, q2, q3, q4 _ _ h5, AL hk1, ?_⟩
    rw [← fc, ← jH _ hk2]
   ·cases h
def Jz (ids : List Nat) (x : Option (aa × Sto × Nat)) : Option (aa × Sto) := x.bind fun x => (um 4 x.1 (cB (lB x.2.1 ++ ids) x.2.1)).map fun y => (y.1, cB ids y.2)
theorem MD (hL : LOk P L) (hm : P.follows .mixedOrders = true) (hn : (P.funcs.all fun fn => !(fn.name == "runtime.NumGoroutine")) = true) (tab : Nat → Tab) {kn : ej} (hkn : qz P kn) (fs : List Nat) (hfs : fs.all (xx P L tab) = true) (fuel k : Nat) (ids : List Nat) {f : Nat} {args : List aa} {sto sto' : Sto} {v : aa}
  (h : Jz ids (mi P L tab kn fuel fs k false f args sto 2000) = some (v, sto')) (hb : (bdS 2000 sto' && flat v) = true) (r : Nat → Nat) : ah P f (args.map (mg r)) (mgS r sto) fun v1 s1 => v1 = v ∧ s1 = mgS r sto' := by
 simp only [Bool.and_eq_true] at hb
 simp only [Jz, Option.bind_eq_some_iff] at h
 obtain ⟨⟨u, s, n⟩, h1, h2⟩ := h
 obtain ⟨⟨u2, s2⟩, h3, he⟩ := aC h2
 simp only [Prod.mk.injEq] at he h3
 obtain ⟨rfl, rfl⟩ := he
 have h4 := (oV hL hm hn tt hkn hfs k false f args sto 2000 _ _ _ h1).2.2 r
 refine ⟨h4.able, fun G w cargs a b c => (h4.calls G w cargs a b c).mono fun e w' p => ?_⟩
 obtain ⟨G', cr, r1, s1, x1, x2, x3, x4, x5, r', hag, rfl, rfl⟩ := p
 have p2 := sJ (r := r') 4 h3 ⟨G', cr, _, _, x1, x2, x3, fi (lB s ++ ids) x4, x5, rfl, (kG s).symm⟩
 obtain ⟨G', cr, r1, s1, x1, x2, x3, x4, x5, rfl, rfl⟩ := p2
 refine ⟨G', cr, _, _, x1, x2, x3, fi ids x4, x5, cN (eB hb.2), ?_⟩
 rw [← kG]
 exact (nY hag hb.1).symm
end Go.Rad
namespace Go.Rad
open Go Go.Proofs
set_option linter.all false
set_option maxRecDepth 20000
set_option maxHeartbeats 4000000
theorem ah.D2 {P : Program} {f : Nat} {a c : aa} {e : Bool} {l : List (List aa)} {rest : List aa} {sto : Sto} {T : aa → Sto → Prop} (h : ah P f (.agg [a, .sl true false l, c] :: rest) sto T) : ah P f (.agg [a, .sl true e l, c] :: rest) sto T :=
 ⟨h.able, fun G w cargs hw hs ha => h.calls G w cargs hw hs ⟨by simpa using ha.1, fun j x hx => by
  match j, hx with
  | 0, hx =>
   cases hx
   have h0 := ha.2 0 _ rfl
   generalize cargs.getD 0 undef = u at h0 ⊢
   cases h0 with
   | agg h1 h2 h3 =>
    refine .agg h1 (fun j x hx => ?_) fun j x hx => ?_
    ·match j, hx with
     | 0, hx => exact h2 0 x hx
     | 1, hx => cases hx; rfl
     | 2, hx => exact h2 2 x hx
    ·match j, hx with
     | 0, hx => exact h3 0 x hx
     | 1, hx => cases hx; exact gF (h3 1 _ rfl)
     | 2, hx => exact h3 2 x hx
  | j + 1, hx => exact ha.2 (j + 1) x hx⟩⟩
abbrev yA : ByteArray := ⟨#[114, 117, 108, 101, 32, 42, 32, 45, 32, 73, 68, 32, 91, 97, 45, 122, 93, 43]⟩
abbrev yB : ByteArray := ⟨#[114, 117, 108, 101, 32, 42, 32, 45, 32, 115, 107, 105, 112, 32, 92, 120, 50, 48, 43]⟩
abbrev t17 : ByteArray := ⟨#[114, 117, 108, 101, 32, 42, 32, 45, 32, 73, 68, 32, 91, 97, 45, 122, 93, 43, 10, 114, 117, 108, 101, 32, 42, 32, 45, 32, 115, 107, 105, 112, 32, 92, 120, 50, 48, 43]⟩
abbrev pC : ByteArray := ⟨#[114, 117, 108, 101]⟩
abbrev vR : ByteArray := ⟨#[42]⟩
abbrev bId : ByteArray := ⟨#[73, 68]⟩
abbrev Eo : ByteArray := ⟨#[115, 107, 105, 112]⟩
abbrev bAz : ByteArray := ⟨#[91, 97, 45, 122, 93, 43]⟩
abbrev bSp : ByteArray := ⟨#[92, 120, 50, 48, 43]⟩
abbrev f17a : Fo := .node ⟨5, aw.none, 1, -1, ByteArray.empty⟩ (.node ⟨2, ⟨0, 576460743713488896, 0, 0⟩, 0, 0, ByteArray.empty⟩ .nil .nil) .nil
abbrev f17b : Fo := .node ⟨5, aw.none, 1, -1, ByteArray.empty⟩ (.node ⟨2, ⟨4294967296, 0, 0, 0⟩, 0, 0, ByteArray.empty⟩ .nil .nil) .nil
abbrev By : List Node := [⟨2, ⟨0, 576460743713488896, 0, 0⟩, [], 0, 0, ByteArray.empty⟩, ⟨5, aw.none, [0], 1, -1, ByteArray.empty⟩]
abbrev Ec : List Node := [⟨2, ⟨4294967296, 0, 0, 0⟩, [], 0, 0, ByteArray.empty⟩, ⟨5, aw.none, [0], 1, -1, ByteArray.empty⟩]
abbrev pj : Ru := ⟨[0], false, false, bId, -1, 12, By⟩
abbrev u7 : Ru := ⟨[0], false, false, ⟨#[]⟩, -1, 33, Ec⟩
def zI : List Nat := fsR ++ [60, 61, 116, 89, 90, 88]
theorem v7 : zI.all (xx Tryz.prog LL vb) = true := by decide +kernel
theorem tE {f : Nat} {args : List aa} {v : aa} (ha : args.all flat = true) (h : ran (mi Tryz.prog LL vb IS 10000 zI 60 false f args [] 1000) = some v) : ah Tryz.prog f args [] fun r s => r = v ∧ s = [] := My we zI v7 10000 60 ha h
theorem qa {f : Nat} {a : Int} {s : ByteArray} {rs : List Ru} {v : aa} (h : Jz [1000, 1001] (mi Tryz.prog LL vb IS 10000 zI 60 false f [.bx 1000 0 0, .agg (lnV a s)] (pst 0 1 [bp] rs) 2000) = some (v, pst 0 1 [bp] rs)) (hb : (bdS 2000 (pst 0 1 [bp] rs) && flat v) = true) (g g1 : Nat) :
  ah Tryz.prog f [.bx 1000 g 0, .agg (lnV a s)] (pst g g1 [bp] rs) fun r s => r = v ∧ s = pst g g1 [bp] rs :=
 MD gY mixed Ap vb we zI v7 10000 60 [1000, 1001] h hb (fun n => match n with | 0 => g | _ => g1)
theorem p17l : ah Tryz.prog 60 [.str t17] [] fun r s => r = .sl true false [lnV 0 yA, lnV 19 yB] ∧ s = [] := tE rfl (by kernel_rfl)
theorem Mr : ah Tryz.prog 61 [.agg (lnV 0 yA), .int .i64 4] [] fun r s => r = .sl true false [lnV 0 pC, lnV 5 vR, lnV 7 ⟨#[45]⟩, lnV 9 bId, lnV 12 bAz] ∧ s = [] := tE rfl (by kernel_rfl)
theorem Ms : ah Tryz.prog 61 [.agg (lnV 19 yB), .int .i64 4] [] fun r s => r = .sl true false [lnV 19 pC, lnV 24 vR, lnV 26 ⟨#[45]⟩, lnV 28 Eo, lnV 33 bSp] ∧ s = [] := tE rfl (by kernel_rfl)
theorem Mt : ah Tryz.prog 61 [.agg (lnV 0 yA), .int .i64 1] [] fun r s => r = .sl true false [lnV 0 pC, lnV 5 ⟨#[42, 32, 45, 32, 73, 68, 32, 91, 97, 45, 122, 93, 43]⟩] ∧ s = [] := tE rfl (by kernel_rfl)
theorem Mu : ah Tryz.prog 61 [.agg (lnV 19 yB), .int .i64 1] [] fun r s => r = .sl true false [lnV 19 pC, lnV 24 ⟨#[42, 32, 45, 32, 115, 107, 105, 112, 32, 92, 120, 50, 48, 43]⟩] ∧ s = [] := tE rfl (by kernel_rfl)
theorem Mv (g g1 : Nat) : ah Tryz.prog 64 [.bx 1000 g 0, .agg (lnV 0 yA)] (pst g g1 [bp] []) fun r s => r = .tup [] ∧ ∃ h1, s = pst g h1 [bp] [pj] :=
 tD [bp] [] g g1 0 0 5 7 9 12 (-1) yA pC vR bId bAz bId [0] By (by decide) Mr (qa (by kernel_rfl) (by kernel_rfl) g g1) (qa (by kernel_rfl) (by kernel_rfl) g g1) (qa (by kernel_rfl) (by kernel_rfl) g g1)
theorem Mw (g g1 : Nat) : ah Tryz.prog 64 [.bx 1000 g 0, .agg (lnV 19 yB)] (pst g g1 [bp] [pj]) fun r s => r = .tup [] ∧ ∃ h1, s = pst g h1 [bp] [pj, u7] :=
 tD [bp] [pj] g g1 19 19 24 26 28 33 (-1) yB pC vR Eo bSp ⟨#[]⟩ [0] Ec (by decide) Ms (qa (by kernel_rfl) (by kernel_rfl) g g1) (qa (by kernel_rfl) (by kernel_rfl) g g1) (qa (by kernel_rfl) (by kernel_rfl) g g1)
theorem p17p : ah Tryz.prog 36 [.str t17] [] fun r s => r = .tup [.agg [.sl true false (cb [bp]), .sl true true [], .sl true false (bf [pj, u7])], .int .i64 0, .int .i64 0] ∧ s = [] := by
 refine ya (lns := [(0, yA), (19, yB)]) (rs := [pj, u7]) ⟨by decide, rfl, by decide, by decide, p17l, ?_, ?_, ?_, ?_⟩
 ·intro x hx
  simp only [List.mem_cons, List.not_mem_nil, or_false] at hx
  rcases hx with rfl | rfl <;> exact ⟨by decide, by decide, by decide +kernel⟩
 ·intro x hx
  simp only [List.mem_cons, List.not_mem_nil, or_false] at hx
  rcases hx with rfl | rfl
  ·exact ⟨_, _, Mt⟩
  ·exact ⟨_, _, Mu⟩
 ·intro i x hx g g1
  match i, hx with
  | 0, hx => cases hx; exact Mv g g1
  | 1, hx => cases hx; exact Mw g g1
 ·intro r hr
  have key : ∀ x : List Node, x.length ≤ maxLen → (∀ n ∈ x, n.name.size ≤ maxLen ∧ n.l.length ≤ maxLen) → ay x [] = (x, 0) → ∃ X, ah Tryz.prog 42 [.sl true false (nodes x), .sl true true []] [] fun v s => v = .tup [.sl true false (nodes X), .int .i64 0] ∧ s = [] := fun x h1 h2 h3 => by
   have := (kY true false true true x [] h1 h2 (by decide) (fun d hd => by cases hd)).flat
   rw [h3] at this
   exact ⟨x, this⟩
  simp only [List.mem_cons, List.not_mem_nil, or_false] at hr
  rcases hr with rfl | rfl
  ·exact key _ (by decide) (by decide) (by decide +kernel)
  ·exact key _ (by decide) (by decide) (by decide +kernel)
abbrev mn : Fl := ⟨[bp], [], [pj, u7]⟩
abbrev w17 : ByteArray := ⟨#[105, 102, 33, 32, 120]⟩
def g17 (n : Nat) (x : List Node) : Int × Bool := if x = By then fT (pb w17 f17a n) n else fT (pb w17 f17b n) n
theorem DH : ba mn = true := by decide +kernel
theorem DX : bF mn = [By, Ec] := by decide +kernel
theorem Dj : b9 mn w17 g17 0 0 = (⟨0, 0, 2⟩, 0) := by decide +kernel
theorem Dk : b9 mn w17 g17 2 0 = (⟨-1, 2, 3⟩, 0) := by decide +kernel
theorem Dl : b9 mn w17 g17 3 0 = (⟨1, 3, 4⟩, 0) := by decide +kernel
theorem Dm : b9 mn w17 g17 4 0 = (⟨0, 4, 5⟩, 0) := by decide +kernel
theorem kK {F : Fl} {w : ByteArray} {g : Nat → List Node → Int × Bool} {n m : Nat} {c c' : Int} {l l' : List Tk} {t : Tk} (hn : n < w.size) (e : b9 F w g n c = (t, c')) (ht : t.b = m) (h : kS F w g m c' l) (hl : (if jl F.rules t = true then t :: l else l) = l') : kS F w g n c l' := by
 have := kS.step (F := F) (w := w) (g := g) (n := n) (m := m) (c := c) (l := l) hn (by rw [e]; exact ht) (by rw [e]; exact h)
 rw [e] at this
 rw [← hl]; exact this
theorem JV : kS mn w17 g17 0 0 [⟨0, 0, 2⟩, ⟨-1, 2, 3⟩, ⟨0, 4, 5⟩] :=
 kK (by decide) Dj rfl (kK (by decide) Dk rfl (kK (by decide) Dl rfl (kK (by decide) Dm rfl (.done (by decide)) rfl) rfl) rfl) rfl
theorem ok17 : hJ mn w17 g17 ∧ jT Tryz.prog 67 mn w17 g17 := by
 have hfo : ∀ x ∈ bF mn, ∃ fo : Fo, fo.deg = 1 ∧ x = fo.lay 0 ∧ fo.cO = true ∧ fo.size ≤ 1024 ∧ no6 fo = true ∧ (∀ n ∈ fo.lay 0, ∀ k, 0 ≤ n.s.word k) ∧ ∀ n, g17 n x = fT (pb w17 fo n) n := by
  rw [DX]
  intro x hx
  have hw : ∀ {s : aw} {o : Node}, (∀ k, 0 ≤ s.word k) → (o = ⟨2, s, [], 0, 0, ByteArray.empty⟩ ∨ o = ⟨5, aw.none, [0], 1, -1, ByteArray.empty⟩) → ∀ k, 0 ≤ o.s.word k := by
   rintro s o hs (rfl | rfl) k
   ·exact hs k
   ·exact je tj k
  simp only [List.mem_cons, List.not_mem_nil, or_false] at hx
  rcases hx with rfl | rfl
  ·refine ⟨f17a, rfl, rfl, by decide +kernel, by decide +kernel, by decide +kernel, fun n hn => ?_, fun n => if_pos rfl⟩
   have hn : n ∈ By := hn
   simp only [List.mem_cons, List.not_mem_nil, or_false] at hn
   exact hw (je ⟨⟨by decide, by decide⟩, ⟨by decide, by decide⟩, ⟨by decide, by decide⟩, ⟨by decide, by decide⟩⟩) hn
  ·refine ⟨f17b, rfl, rfl, by decide +kernel, by decide +kernel, by decide +kernel, fun n hn => ?_, fun n => if_neg (by decide +kernel)⟩
   have hn : n ∈ Ec := hn
   simp only [List.mem_cons, List.not_mem_nil, or_false] at hn
   exact hw (je ⟨⟨by decide, by decide⟩, ⟨by decide, by decide⟩, ⟨by decide, by decide⟩, ⟨by decide, by decide⟩⟩) hn
 have hru : ∀ r ∈ mn.rules, wM r := by
  intro r hr
  have hr : r ∈ [pj, u7] := hr
  simp only [List.mem_cons, List.not_mem_nil, or_false] at hr
  rcases hr with rfl | rfl
  ·exact ⟨by decide, by decide, by decide⟩
  ·exact ⟨by decide, by decide, by decide⟩
 have hfl : eP mn := ⟨by decide, by decide +kernel, by decide, (fun d hd => nomatch hd), by decide, hru⟩
 refine ⟨⟨hfl, DH, by decide, fun n hn x hx h2 => ?_⟩, fun n hn x hx => ?_⟩
 all_goals obtain ⟨fo, f1, f2, f3, f4, f5, f6, f7⟩ := hfo x hx
 ·obtain ⟨⟨y, b⟩, hy⟩ : ∃ p, g17 n x = p := ⟨_, rfl⟩
  rw [hy] at h2 ⊢
  simp only at h2
  subst h2
  rw [f7] at hy
  obtain ⟨h3, h4, _⟩ := pV hy
  obtain ⟨k, rfl, h5, h6, _⟩ := (jX f1 f3 n y).1 h3
  exact ⟨k, rfl, by omega, h6⟩
 ·have hE := pI (w := w17) (by decide) false fo f1 f3 f4 f5 f6 n (by omega)
  rw [← f2] at hE
  rw [f7]
  refine pW hE (by have := nB (w := w17) f1 n; show (pb w17 fo n).length ≤ _; have : w17.size = 5 := rfl; omega) fun y hy => ?_
  obtain ⟨k, rfl, h5, _⟩ := (jX f1 f3 n y).1 hy
  omega
theorem yv : ah Tryz.prog 14 [] [] fun r s => r = .bool true ∧ s = [] := by
 have hp := p17p
 have hl : ah Tryz.prog 17 [.agg [.sl true false (cb [bp]), .sl true true [], .sl true false (bf [pj, u7])], .str w17] [] fun r s => (∃ fl, r = .tup [.sl true fl [[.int .i64 0, .int .i64 0, .int .i64 2], [.int .i64 (-1), .int .i64 2, .int .i64 3], [.int .i64 0, .int .i64 4, .int .i64 5]], .int .i64 0]) ∧ s = [] := (qm ok17.1 ok17.2 _ JV).D2 (e := true)
 have hs : ∀ q f q' f', ah Tryz.prog 24 [.sl q f [[.int .i64 0, .int .i64 0, .int .i64 2], [.int .i64 (-1), .int .i64 2, .int .i64 3], [.int .i64 0, .int .i64 4, .int .i64 5]], .sl q' f' [[.int .i64 0, .int .i64 0, .int .i64 2], [.int .i64 (-1), .int .i64 2, .int .i64 3], [.int .i64 0, .int .i64 4, .int .i64 5]]] [] fun r s => r = .bool true ∧ s = [] := fun q f q' f' => tG q f q' f' [⟨0, 0, 2⟩, ⟨-1, 2, 3⟩, ⟨0, 4, 5⟩] (by decide)
 generalize cb [bp] = A at *
 generalize bf [pj, u7] = B at *
 refine ah.enter Tryz.func14 rfl (by kernel_rfl) (Nat.le_of_ble_eq_true rfl) ?_; simp only [ai, Nat.reduceAdd]
 repeat' (first
 | refine gCt rfl ?_
 | ((first
 | ((first | refine gRg [23] fp14 ?_); intro K hK)
 | refine cAl (hp) rfl rfl rfl ?_
 | refine cAl (hs _ _ _ _) rfl rfl rfl ?_
 | (refine ah.use [] [] rfl hl rfl rfl rfl ?_; rintro _ _ ⟨⟨fl, rfl⟩, rfl⟩; refine ⟨.inl rfl, rfl, ?_⟩; simp only [bk, bk2, bk1, bkS, bkO, bC, aH, go_sem, simprocAttr])
 | (refine ab ?_ ?_ <;> intro hb <;> (try simp only [bls] at hb) <;> (try simp only [hb]))
 | refine gRe [] [.tmp 0] rfl rfl ?_) <;> (try simp only [go_sem, simprocAttr]))
 | (refine hK _ _ ?_; clear hK K; simp only [go_sem, simprocAttr])
 | refine gCd ?_ | refine brT ?_ | refine brF ?_
 | (refine brS ?_ ?_ <;> intro hc <;> (try simp only [bls] at hc) <;> (try simp only [hc, bls]))
 | intro _ | refine And.intro ?_ ?_)
 all_goals try exact zsd
end Go.Rad
namespace Go.Rad
open Go Go.Proofs
set_option linter.all false
set_option maxRecDepth 20000
set_option maxHeartbeats 4000000
theorem A8 {F : Fl} {w : ByteArray} {g : Nat → List Node → Int × Bool} (h : hJ F w g) {n : Nat} {c : Int} {l : List Tk} (hl : kS F w g n c l) : l.length ≤ w.size - n := by
 induction hl with
 | done _ => exact Nat.zero_le _
 | @step n m c l h1 h2 h3 ih =>
  obtain ⟨⟨m', e1, e2, e3⟩, _⟩ := ki h h1 c
  have hm : m' = m := by omega
  split
  ·rw [List.length_cons]; omega
  ·omega
structure Lx (P : Program) (la lb na nb : Nat) (F : Fl) (w : ByteArray) (S : List Tk) (e : Int) (X : Int → Int → Tk × Int × Int) : Prop where
 a : ah P la [.agg F.cells, .str w] [] fun r s => r = .tup [.sl true false (dM S), .int .i64 e] ∧ s = []
 b : ah P lb [.agg F.cells, .str w] [] fun r s => r = .tup [.sl true false (dM S), .int .i64 e] ∧ s = []
 c : ∀ n c, ah P na [.agg F.cells, .str w, .int .i64 n, .int .i64 c] [] fun r s => r = .tup [.agg (X n c).1.cells, .int .i64 (X n c).2.1, .int .i64 (X n c).2.2] ∧ s = []
 d : ∀ n c, ah P nb [.agg F.cells, .str w, .int .i64 n, .int .i64 c] [] fun r s => r = .tup [.agg (X n c).1.cells, .int .i64 (X n c).2.1, .int .i64 (X n c).2.2] ∧ s = []
 len : S.length ≤ 1000000
theorem DV (F : Fl) (w : ByteArray) (hT : FlT F) (hd : F.defs.length ≤ 6) (hw : w.size ≤ 30) : ∃ S e X, Lx Tryz.prog 17 21 22 23 F w S e X := by
 have hF := nJ hT (by omega)
 have hlen : ∀ r ∈ F.rules, r.l.length ≤ maxLen := fun r hr => (hT.rs r hr).2.2.1
 have hl := fun h => C8 hT (by omega : F.defs.length ≤ 900000) h (by omega : w.size ≤ 900000)
 by_cases h : ba F = true
 ·obtain ⟨h1, h2, h3⟩ := hl h
  obtain ⟨S, hS⟩ := yC h1 _ 0 0 rfl
  exact ⟨S, 0, gT F w (gW w), (qm h1 h2 S hS).flat, (yh h1 hlen h3 S hS).flat, qn F w (gW w) hF fun _ => ⟨h1, h2⟩, qe F w (gW w) hF hlen fun _ => ⟨h1, h3⟩, by have := A8 h1 hS; omega⟩
 ·have h' : ba F = false := by simpa using h
  exact ⟨[], 1, gT F w (gW w), (tX F w hF h').flat, (tw F w hF hlen h').flat, qn F w (gW w) hF fun h => ⟨(hl h).1, (hl h).2.1⟩, qe F w (gW w) hF hlen fun h => ⟨(hl h).1, (hl h).2.2⟩, by decide⟩
theorem vj (F : Fl) (w : ByteArray) (n c : Int) (hT : FlT F) (hw : w.size ≤ maxLen) : ah Tryz.prog 5 [.agg F.cells, .str w, .int .i64 n, .int .i64 c] [] fun r _ => r = .bool true := by
 have hsh := yv
 have hli := xN F hT
 have htx := A6 w hw
 have h2 := fun hd => DV F (w.extract 0 (min w.size 30)) hT hd (by simp; omega)
 clear hT hw
 generalize w.extract 0 (min w.size 30) = y at htx h2
 by_cases hd : F.defs.length ≤ 6
 ·obtain ⟨S, e, X, ⟨ha, hb, hc, hdd, hS⟩⟩ := h2 hd
  have hc := hc n c
  have hdd := hdd n c
  generalize X n c = x at hc hdd
  obtain ⟨⟨x1, x2, x3⟩, x4, x5⟩ := x
  have hsm := fun q f q' f' => tG q f q' f' S hS
  clear h2
  obtain ⟨cs, ds, rs⟩ := F
  simp only at *
  generalize dM S = tv at *
  refine ah.enter Tryz.func5 rfl (by kernel_rfl) (Nat.le_of_ble_eq_true rfl) ?_; simp only [ai, Nat.reduceAdd]
  repeat' (first
 | refine gCt rfl ?_
 | ((first
 | (refine ae.at 2 ?_; (refine ae.de 4 4 rfl rfl rfl ?_; simp only [go_sem, simprocAttr]); refine gR fp5 ?_; intro K hK)
 | ((first | refine gR fp5 ?_ | refine gD 4 9 ro9 fp5 ?_ | refine gD 5 9 ro9 fp5 ?_ | refine gWy 6 [] (.take 0 (.take 1 (.take 3 (.take 4 (.two 2 (.two 5 (.take 6 (.take 7 (.take 8 (.take 9 (.one 10 (.one 11 (.take 12 (.take 13 .done)))))))) 10 (.one 5 (.take 6 (.take 7 (.take 8 (.take 9 (.one 11 (.take 12 (.take 13 .done))))))))) 10 (.one 2 (.one 5 (.take 6 (.take 7 (.take 8 (.take 9 (.one 11 (.take 12 (.take 13 .done)))))))))))))) fp5 ?_ | refine gWy 7 [] (.take 0 (.take 1 (.take 3 (.take 4 (.two 2 (.two 5 (.take 6 (.take 7 (.take 8 (.take 9 (.one 10 (.one 11 (.take 12 (.take 13 .done)))))))) 10 (.one 5 (.take 6 (.take 7 (.take 8 (.take 9 (.one 11 (.take 12 (.take 13 .done))))))))) 10 (.one 2 (.one 5 (.take 6 (.take 7 (.take 8 (.take 9 (.one 11 (.take 12 (.take 13 .done)))))))))))))) fp5 ?_); intro K hK)
 | refine cAl (hsh) rfl rfl rfl ?_
 | refine cAl (hsm _ _ _ _) rfl rfl rfl ?_
 | refine cAl (htx) rfl rfl rfl ?_
 | refine cAl (hc) rfl rfl rfl ?_
 | refine cAl (hdd) rfl rfl rfl ?_
 | refine ⟨_, ah.alone (htx) rfl rfl rfl, ?_⟩
 | refine ⟨_, ah.alone (ha) rfl rfl rfl, ?_⟩
 | refine ⟨_, ah.alone (hb) rfl rfl rfl, ?_⟩
 | (refine ah.use [] [] rfl hli rfl rfl rfl ?_; rintro _ _ ⟨⟨bb, rfl, hbb⟩, rfl⟩; cases bb <;> (refine ⟨.inl rfl, rfl, ?_⟩; simp only [bk, bk2, bk1, bkS, bkO, bC, aH, go_sem, simprocAttr]))
 | (refine ab ?_ ?_ <;> intro hb <;> (try simp only [bls] at hb) <;> (try simp only [hb]))
 | refine gRe [] [.tmp 8] rfl rfl ?_) <;> (try simp only [go_sem, simprocAttr, eq_self, vcW, CY]))
 | (refine hK _ _ ?_; clear hK K; simp only [go_sem, simprocAttr])
 | refine gCd ?_ | refine brT ?_ | refine brF ?_
 | (refine brS ?_ ?_ <;> intro hc <;> (try simp only [bls] at hc) <;> (try simp only [hc, bls]))
 | intro _ | refine And.intro ?_ ?_)
  all_goals try exact zsd
  all_goals first | rfl | simp at hc
 ·clear h2
  obtain ⟨cs, ds, rs⟩ := F
  simp only at *
  refine ah.enter Tryz.func5 rfl (by kernel_rfl) (Nat.le_of_ble_eq_true rfl) ?_; simp only [ai, Nat.reduceAdd]
  repeat' (first
 | refine gCt rfl ?_
 | ((first
 | ((first | refine gR fp5 ?_ | refine gD 4 2 ro9 fp5 ?_ | refine gD 5 2 ro9 fp5 ?_ | refine gD 6 4 [0, 1, 3, 4, 2, 5, 6, 7, 8, 9, 10, 11, 12, 13] fp5 ?_ | refine gD 7 4 [0, 1, 3, 4, 2, 5, 6, 7, 8, 9, 10, 11, 12, 13] fp5 ?_); intro K hK)
 | refine cAl (hsh) rfl rfl rfl ?_
 | (refine ah.use [] [] rfl hli rfl rfl rfl ?_; rintro _ _ ⟨⟨bb, rfl, hbb⟩, rfl⟩; cases bb <;> (first | exact absurd (hbb rfl) hd | (refine ⟨.inl rfl, rfl, ?_⟩; simp only [bk, bk2, bk1, bkS, bkO, bC, aH, go_sem, simprocAttr])))
 | (refine ab ?_ ?_ <;> intro hb <;> (try simp only [bls] at hb) <;> (try simp only [hb]))
 | refine gRe [] [.tmp 8] rfl rfl ?_) <;> (try simp only [go_sem, simprocAttr]))
 | (refine hK _ _ ?_; clear hK K; simp only [go_sem, simprocAttr])
 | refine gCd ?_ | refine brT ?_ | refine brF ?_
 | (refine brS ?_ ?_ <;> intro hc <;> (try simp only [bls] at hc) <;> (try simp only [hc, bls]))
 | intro _ | refine And.intro ?_ ?_)
  all_goals try exact zsd
end Go.Rad
namespace Go.Rad
open Go Go.Proofs
theorem EB : mT LL 48 := ⟨5, 46, 39, 3, 9, 44, rfl, rfl, rfl, rfl, rfl, rfl, rfl⟩
theorem defT : yZ LL 93 := ⟨9, 36, 48, rfl, rfl, rfl, EB⟩
theorem ruT' : Ho LL 41 := ⟨39, 4, 9, 3, 36, 48, rfl, rfl, rfl, rfl, rfl, rfl, EB⟩
theorem flT : FlTy LL 26 := ⟨22, 9, 23, 93, 24, 41, rfl, rfl, rfl, rfl, defT, rfl, ruT'⟩
theorem own6 : ownKnob Tryz.prog.godebug = none := by kernel_rfl
theorem zX : laidOutB Tryz.prog = true := by kernel_rfl
theorem gTab : Tryz.prog.globalNamed "math/bits.deBruijn64tab" = some 0 := by kernel_rfl
theorem tTab : (Tryz.prog.globals[0]?).map (·.type) = some 199 := by kernel_rfl
theorem cT8 : Tryz.prog.cellsOf 5 = 1 := by kernel_rfl
theorem cTab : Tryz.prog.cellsOf 199 = 64 := by kernel_rfl
theorem sx : ∀ x ∈ bJ, fits .u8 x := by
 have m1 : IntKind.u8.min = 0 := by kernel_rfl
 have m2 : IntKind.u8.max = 255 := by kernel_rfl
 have : ∀ x ∈ bJ, 0 ≤ x ∧ x ≤ 255 := by decide
 intro x hx
 unfold fits
 rw [m1, m2]; exact this x hx
theorem xC {W : World} (h : Lib.TabIs Tryz.prog W "math/bits.deBruijn64tab" .u8 bJ) : qy W := by
 intro g l hg
 unfold nO at hg
 split at hg
 ·rename_i e
  subst e
  cases hg
  unfold Lib.TabIs World.var? at h
  rw [gTab] at h
  simp only [Option.bind_some] at h
  split at h
  ·rename_i cs e fr hh
   obtain rfl := Option.some.inj h
   refine .ref (.inl trivial) (e := e) (fr := fr) (c := (bJ.map fun z => Value.int .u8 z).toArray) hh (by simp [fQ]) (fun j x hx => ?_) (fun j x hx => ?_)
   ·simp only [fQ, List.getElem?_map] at hx
    obtain ⟨y, _, rfl⟩ := Option.map_eq_some_iff.1 hx
    rfl
   ·simp only [fQ, List.getElem?_map] at hx
    obtain ⟨y, hy, rfl⟩ := Option.map_eq_some_iff.1 hx
    have e2 : ((bJ.map fun z => Value.int .u8 z).toArray).getD (0 + j) undef = .int .u8 y := by
     simp [Array.getD_eq_getD_getElem?, hy]
    rw [e2]
    exact .int (sx y (List.mem_of_getElem? hy))
  ·cases h
 ·cases hg
end Go.Rad
namespace Go.Proofs.YtmbhpolhiblhoaaGreatDoor
open Go Go.Rad
theorem CD {W : World} (h : laidMetH Tryz.prog [("math/bits.deBruijn64tab", Rows.laid_math_bits_deBruijn64tab)] W) : qy W := by
 rw [MakeChecks.laidMetH_plain _ _ _ (by kernel_rfl)] at h
 exact xC (Lib.tabIs_of_head (zs := bJ) (rest := []) gTab tTab Tryz.underlying199 Tryz.underlying5 cT8 cTab h)
theorem zt (os : Os) (args : Array Value) : laidMetH Tryz.prog [("math/bits.deBruijn64tab", Rows.laid_math_bits_deBruijn64tab)] ((World.doorLaid Tryz.prog 14 os).forCall (fun _ _ => 0) ⟨#[], args, []⟩).memory :=
 laidMetH_of_parts3 (fuel := 8) (laidMet_of_run' 8 (by kernel_rfl) (by kernel_rfl)) (by kernel_rfl) (by kernel_rfl)
end Go.Proofs.YtmbhpolhiblhoaaGreatDoor
