/- A part of the proof. -/
import Derived.Test.YtmbhpolhiblhoaaGreatDoorKRRun
import Derived.Test.YtmbhpolhiblhoaaGreatDoorKRDraw
import Derived.Test.YtmbhpolhiblhoaaGreatDoorKRGlob
import Derived.Test.YtmbhpolhiblhoaaGreatDoorKRDefer
import Derived.Test.YtmbhpolhiblhoaaGreatDoorKRWays
import Derived.Test.YtmbhpolhiblhoaaGreatDoorKC05a
import Derived.Test.YtmbhpolhiblhoaaGreatDoorKC03c
import Derived.Test.YtmbhpolhiblhoaaGreatDoorKP07n
import Derived.Test.YtmbhpolhiblhoaaGreatDoorCards
import Derived.Test.YtmbhpolhiblhoaaGreatDoorTie
import Derived.Lib.LaidTab
import Derived.LaidMore
set_option linter.all false
namespace Go.Rad
open Go
variable {P : Program} {L : Lay}
theorem s9 : Quiet P := fun f args v sto h1 h2 h3 h4 => ah.alone (ah.none h4) (fU fun x hx => wG (List.all_eq_true.1 h1 x hx)) (vI h2) h3
def sw : aa → List aa
 | .tup vs => vs
 | v => [v]
def Bs : Nat → aa → Sto → Option aa
 | 0, v, _ => some v
 | k + 1, v, s =>
  match jX (sw v) with
  | none => some v
  | some id =>
   match ak s id with
   | some (g, .row _ l) => req (uS id g l.length v && o9 id g l.length (ca s id)) (Bs k (rf id g l v) (rfS id g l (ca s id)))
   | _ => none
theorem sy {E : Gh} {R : aa → Prop} {e : Ending} {w' : World} {r : Nat → Nat} : ∀ (k : Nat) {v v' : aa} {s : Sto}, Bs k v s = some v' → R (mg r v') → fA E (fun v1 s1 => v1 = mg r v ∧ s1 = mgS r s) e w' → fA E (fun v1 _ => R v1) e w'
 | 0, v, v', s, h, hR, hp => by
  simp only [Bs, Option.some.injEq] at h; subst h
  exact hp.mono (.refl E) fun _ _ hx => by rw [hx.1]; exact hR
 | k + 1, v, v', s, h, hR, ⟨G', cr, r1, s1, h1, h2, h3, h4, h5, h6, h7⟩ => by
  simp only [Bs] at h
  split at h
  ·cases h; exact ⟨G', cr, r1, s1, h1, h2, h3, h4, h5, by rw [h6]; exact hR⟩
  ·split at h
   ·rename_i g esz l hg
    simp only [aj, Bool.and_eq_true] at h
    obtain ⟨⟨hk1, hk2⟩, h⟩ := h
    subst h6 h7
    obtain ⟨G2, q1, q2, q3, q4⟩ := ga (g := r g) (esz := esz) (l := l) h3 h4 (by rw [aZ, hg]; rfl)
    refine sy k h hR ⟨G2, cr, _, _, h1, h2.trans q1, q2, q3, q4 _ _ h5, AB hk1, ?_⟩
    rw [← eY, ← jE _ hk2]
   ·cases h
def ly : Sto → List Nat
 | [] => []
 | (i, _, .row _ _) :: s => i :: ly s
 | _ :: s => ly s
theorem kE {r : Nat → Nat} {keep : List Nat} : ∀ s : Sto, mgS r (cy keep s) = cy keep (mgS r s)
 | [] => rfl
 | (i, g, o) :: s => by
  have ih := kE (r := r) (keep := keep) s
  simp only [aq, mgS]
  split
  ·simp only [mgS, ih]
  ·exact ih
def ran (x : Option (aa × Sto × Nat)) : Option aa := x.bind fun x => (Bs 4 x.1 (cy (ly x.2.1) x.2.1)).bind fun v => req (flat v) (some v)
theorem Mu (hL : LOk P L) (hm : P.follows .mixedOrders = true) (hn : (P.funcs.all fun fn => !(fn.name == "runtime.NumGoroutine")) = true) (tab : Nat → Tab) {kn : eh} (hkn : qm P kn) (fs : List Nat) (hfs : fs.all (xh P L tab) = true) (fuel k : Nat) {f : Nat} {args : List aa} {v : aa} (ha : args.all flat = true) (h : ran (mb P L tab kn fuel fs k false f args [] 1000) = some v) :
  ah P f args [] fun r s => r = v ∧ s = [] := by
 simp only [ran, Option.bind_eq_some_iff, aj, Option.some.injEq] at h
 obtain ⟨⟨u, s, n⟩, h1, u', h2, h3, rfl⟩ := h
 have h4 := (oQ hL hm hn s9 hkn hfs k false f args [] 1000 _ _ _ h1).2.2 id
 rw [fU fun x hx => cK (ey (List.all_eq_true.1 ha x hx))] at h4
 refine ah.none ⟨h4.able, fun G w cargs a b c => (h4.calls G w cargs a b c).mono fun e w' p => ?_⟩
 obtain ⟨G', cr, r1, s1, x1, x2, x3, x4, x5, r', _, rfl, rfl⟩ := p
 exact sy (R := fun r => r = u') 4 h2 (cK (ey h3)) ⟨G', cr, _, _, x1, x2, x3, fg (ly s) x4, x5, rfl, (kE s).symm⟩
end Go.Rad
namespace Go.Rad
open Go
def Mt : List Tab := [
 ⟨[], []⟩,
 ⟨[], []⟩,
 ⟨[], []⟩,
 ⟨[], []⟩,
 ⟨[], []⟩,
 ⟨[], []⟩,
 ⟨[], []⟩,
 ⟨[], []⟩,
 ⟨[], []⟩,
 ⟨[], []⟩,
 ⟨[], []⟩,
 ⟨[], []⟩,
 ⟨[], []⟩,
 ⟨[], []⟩,
 ⟨[], []⟩,
 ⟨[], []⟩,
 ⟨[], []⟩,
 ⟨[], []⟩,
 ⟨[], []⟩,
 ⟨[], []⟩,
 ⟨[], []⟩,
 ⟨[], []⟩,
 ⟨[], []⟩,
 ⟨[], []⟩,
 ⟨[], []⟩,
 ⟨[], []⟩,
 ⟨[], []⟩,
 ⟨[], []⟩,
 ⟨[], []⟩,
 ⟨fp29, [(8, ⟨11, [0, 1, 2, 3, 4, 5, 6, 7, 8, 9, 10], [], [], [], []⟩)]⟩,
 ⟨fp30, [(13, ⟨11, [0, 1, 2, 3, 4, 5, 6, 7, 8, 9, 10], [], [], [], []⟩)]⟩,
 ⟨[], []⟩,
 ⟨[], []⟩,
 ⟨[], []⟩,
 ⟨[], []⟩,
 ⟨[], []⟩,
 ⟨[], []⟩,
 ⟨[], []⟩,
 ⟨[], []⟩,
 ⟨[], []⟩,
 ⟨fp40, []⟩,
 ⟨[], []⟩,
 ⟨[], []⟩,
 ⟨[], []⟩,
 ⟨[], []⟩,
 ⟨[], []⟩,
 ⟨[], []⟩,
 ⟨[], []⟩,
 ⟨fp48, [(2, ⟨15, [0, 1, 2, 3, 4, 5, 6, 7, 8, 9, 10, 11, 12, 13, 14], [], [], [], []⟩)]⟩,
 ⟨fp49, [(1, ⟨18, [0, 1, 2, 3, 4, 5, 6, 7, 8, 9, 10, 11, 12, 13, 14, 15, 16, 17], [], [], [], []⟩)]⟩,
 ⟨fp50, []⟩,
 ⟨[], []⟩,
 ⟨[], []⟩,
 ⟨[], []⟩,
 ⟨[], []⟩,
 ⟨[], []⟩,
 ⟨[], []⟩,
 ⟨[], []⟩,
 ⟨[], []⟩,
 ⟨fp59, []⟩,
 ⟨fp60, []⟩,
 ⟨fp61, [(7, ⟨12, [0, 1, 2, 3, 4, 5, 6, 7, 8, 9, 10, 11, 12, 13], [37], [], [], []⟩), (9, ⟨11, [0, 1, 2, 3, 4, 5, 6, 7, 8, 9, 10, 11, 12], [51], [], [], []⟩)]⟩,
 ⟨fp62, [(9, ⟨14, [0, 1, 2, 3, 4, 5, 6, 7, 8, 9, 10, 11, 12, 13], [], [], [], []⟩), (11, ⟨14, [0, 1, 2, 3, 4, 5, 6, 7, 8, 9, 10, 11, 12, 13, 14, 15, 16, 17, 18, 19, 20, 21], [73], [], [0, 4], [61, 65]⟩)]⟩,
 ⟨fp63, [(8, ⟨9, [0, 1, 2, 3, 4, 5, 6, 7, 8, 9, 10], [], [], [], []⟩), (10, ⟨11, [0, 1, 2, 3, 4, 5, 6, 7, 8, 9, 10, 11, 12, 13, 14, 15], [64], [], [], []⟩)]⟩,
 ⟨fp64, [(6, ⟨8, [0, 1, 2, 3, 5, 6, 7, 8, 4, 9, 10, 11], [], [], [4], [33]⟩), (19, ⟨8, [0, 1, 2, 3, 4, 5, 6, 7, 8, 9, 10, 11, 12], [81], [], [], []⟩)]⟩,
 ⟨fp65, []⟩,
 ⟨[], []⟩,
 ⟨[], []⟩,
 ⟨fp68, []⟩,
 ⟨fp69, []⟩,
 ⟨[], []⟩,
 ⟨[], []⟩,
 ⟨[], []⟩,
 ⟨[], []⟩,
 ⟨[], []⟩,
 ⟨[], []⟩,
 ⟨[], []⟩,
 ⟨fp77, [(2, ⟨27, [0, 1, 2, 3, 4, 5, 6, 7, 8, 9, 10, 11, 12, 13, 14, 15, 16, 17, 18, 19, 20, 21, 22, 23, 24, 25, 26], [], [], [], []⟩)]⟩,
 ⟨fp78, [(1, ⟨7, [0, 1, 2, 3, 4, 5, 6, 7, 8, 9, 10], [11], [], [], []⟩)]⟩,
 ⟨[], []⟩,
 ⟨[], []⟩,
 ⟨[], []⟩,
 ⟨[], []⟩,
 ⟨[], []⟩,
 ⟨[], []⟩,
 ⟨[], []⟩,
 ⟨fp86, []⟩,
 ⟨fp87, []⟩,
 ⟨fp88, []⟩,
 ⟨fp89, [(11, ⟨9, [0, 1, 2, 3, 4, 5, 6, 7, 8, 9, 10], [], [], [], []⟩)]⟩,
 ⟨fp90, [(12, ⟨8, [0, 1, 2, 3, 4, 5, 6, 7, 8, 9], [], [], [], []⟩)]⟩,
 ⟨[], []⟩,
 ⟨[], []⟩,
 ⟨[], []⟩,
 ⟨[], []⟩,
 ⟨[], []⟩,
 ⟨[], []⟩,
 ⟨[], []⟩,
 ⟨[], []⟩,
 ⟨[], []⟩,
 ⟨[], []⟩,
 ⟨[], []⟩,
 ⟨[], []⟩,
 ⟨[], []⟩,
 ⟨[], []⟩,
 ⟨[], []⟩,
 ⟨fp106, [(4, ⟨10, [0, 1, 2, 3, 4, 5, 6, 7, 8, 9], [], [], [], []⟩), (14, ⟨29, [0, 1, 2, 3, 4, 5, 6, 7, 8, 9, 10, 11, 12, 13, 14, 15, 16, 17, 18, 19, 20, 21, 22, 23, 24, 25, 26, 27, 28], [], [], [], []⟩)]⟩,
 ⟨[], []⟩,
 ⟨[], []⟩,
 ⟨[], []⟩,
 ⟨[], []⟩,
 ⟨[], []⟩,
 ⟨[], []⟩,
 ⟨[], []⟩,
 ⟨[], []⟩,
 ⟨[], []⟩,
 ⟨fp116, [(7, ⟨17, [0, 1, 2, 3, 4, 5, 6, 7, 8, 9, 10, 11, 12, 13, 14, 15, 16, 17], [], [], [], []⟩)]⟩,
 ⟨[], []⟩,
 ⟨[], []⟩,
 ⟨[], []⟩,
 ⟨[], []⟩,
 ⟨[], []⟩,
 ⟨[], []⟩,
 ⟨[], []⟩,
 ⟨[], []⟩,
 ⟨[], []⟩,
 ⟨[], []⟩,
 ⟨[], []⟩,
 ⟨[], []⟩,
 ⟨[], []⟩,
 ⟨[], []⟩,
 ⟨[], []⟩,
 ⟨[], []⟩,
 ⟨fp133, [(1, ⟨10, [0, 1, 2, 3, 4, 5, 6, 7, 8, 9], [], [], [], []⟩), (9, ⟨30, [0, 1, 2, 3, 4, 5, 6, 7, 8, 9, 10, 11, 12, 13, 14, 15, 16, 17, 18, 19, 20, 21, 22, 23, 24, 25, 26, 27, 28, 29], [], [], [], []⟩)]⟩,
 ⟨fp134, [(5, ⟨15, [0, 1, 2, 3, 4, 5, 6, 7, 8, 9, 10, 11, 12, 13, 14], [], [], [], []⟩), (8, ⟨15, [0, 1, 2, 3, 4, 5, 6, 7, 8, 9, 10, 11, 12, 13, 14], [], [], [], []⟩), (15, ⟨10, [0, 1, 2, 3, 4, 5, 6, 7, 8, 9], [], [], [], []⟩)]⟩,
 ⟨[], []⟩,
 ⟨[], []⟩,
 ⟨[], []⟩,
 ⟨[], []⟩,
 ⟨[], []⟩,
 ⟨[], []⟩,
 ⟨[], []⟩,
 ⟨[], []⟩,
 ⟨[], []⟩,
 ⟨[], []⟩,
 ⟨[], []⟩,
 ⟨[], []⟩,
 ⟨[], []⟩,
 ⟨[], []⟩,
 ⟨[], []⟩,
 ⟨fp150, []⟩,
 ⟨fp151, [(2, ⟨16, [0, 1, 2, 3, 4, 5, 6, 7, 8, 9, 10, 11, 12, 13, 14, 15], [], [], [], []⟩), (6, ⟨26, [0, 1, 2, 3, 4, 5, 6, 7, 8, 9, 10, 11, 12, 13, 14, 15, 16, 17, 18, 19, 20, 21, 22, 23, 24, 25], [], [], [], []⟩), (9, ⟨15, [0, 1, 2, 3, 4, 5, 6, 7, 8, 9, 10, 11, 12, 13, 14], [], [], [], []⟩)]⟩,
 ⟨[], []⟩,
 ⟨[], []⟩,
 ⟨fp154, [(3, ⟨15, [0, 1, 2, 3, 4, 5, 6, 7, 8, 9, 10, 11, 12, 13, 14], [], [], [], []⟩), (8, ⟨12, [0, 1, 2, 3, 4, 5, 6, 7, 8, 9, 10, 11], [], [], [], []⟩), (12, ⟨13, [0, 1, 2, 3, 4, 5, 6, 7, 8, 9, 10, 11, 12, 13, 14], [], [], [], []⟩)]⟩,
 ⟨fp155, []⟩,
 ⟨fp156, []⟩,
 ⟨fp157, [(1, ⟨10, [0, 1, 2, 3, 4, 5, 6, 7, 8, 9], [], [], [], []⟩), (9, ⟨10, [0, 1, 2, 3, 4, 5, 6, 7, 8, 9], [], [], [], []⟩), (18, ⟨11, [0, 1, 2, 3, 4, 5, 6, 7, 8, 9, 10], [], [], [], []⟩), (21, ⟨11, [0, 1, 2, 3, 4, 5, 6, 7, 8, 9, 10], [], [], [], []⟩), (22, ⟨12, [0, 1, 2, 3, 4, 5, 6, 7, 8, 9, 10, 11], [], [], [], []⟩)]⟩,
 ⟨fp158, [(3, ⟨15, [0, 1, 2, 3, 4, 5, 6, 7, 8, 9, 10, 11, 12, 13, 14], [], [], [], []⟩), (4, ⟨16, [0, 1, 2, 3, 4, 5, 6, 7, 8, 9, 10, 11, 12, 13, 14, 15], [], [], [], []⟩)]⟩,
 ⟨[], []⟩,
 ⟨[], []⟩,
 ⟨[], []⟩,
 ⟨[], []⟩,
 ⟨[], []⟩,
 ⟨[], []⟩,
 ⟨[], []⟩,
 ⟨[], []⟩,
 ⟨[], []⟩,
 ⟨[], []⟩,
 ⟨[], []⟩,
 ⟨[], []⟩,
 ⟨fp171, [(4, ⟨10, [0, 1, 2, 3, 4, 5, 6, 7, 8, 9], [], [], [], []⟩)]⟩,
 ⟨[], []⟩,
 ⟨[], []⟩,
 ⟨fp174, []⟩,
 ⟨[], []⟩,
 ⟨[], []⟩,
 ⟨[], []⟩,
 ⟨[], []⟩,
 ⟨[], []⟩,
 ⟨[], []⟩,
 ⟨[], []⟩,
 ⟨[], []⟩,
 ⟨[], []⟩,
 ⟨[], []⟩,
 ⟨[], []⟩,
 ⟨[], []⟩,
 ⟨[], []⟩,
 ⟨[], []⟩,
 ⟨[], []⟩,
 ⟨[], []⟩,
 ⟨[], []⟩,
 ⟨[], []⟩,
 ⟨[], []⟩,
 ⟨[], []⟩,
 ⟨[], []⟩,
 ⟨[], []⟩,
 ⟨[], []⟩,
 ⟨[], []⟩,
 ⟨[], []⟩,
 ⟨[], []⟩,
 ⟨[], []⟩,
 ⟨[], []⟩,
 ⟨[], []⟩,
 ⟨[], []⟩,
 ⟨[], []⟩,
 ⟨[], []⟩,
 ⟨[], []⟩,
 ⟨[], []⟩,
 ⟨[], []⟩,
 ⟨[], []⟩,
 ⟨[], []⟩,
 ⟨[], []⟩,
 ⟨[], []⟩,
 ⟨[], []⟩,
 ⟨[], []⟩,
 ⟨[], []⟩,
 ⟨[], []⟩,
 ⟨[], []⟩,
 ⟨[], []⟩,
 ⟨[], []⟩,
 ⟨[], []⟩,
 ⟨[], []⟩,
 ⟨[], []⟩,
 ⟨[], []⟩,
 ⟨[], []⟩,
 ⟨[], []⟩,
 ⟨[], []⟩,
 ⟨[], []⟩,
 ⟨[], []⟩,
 ⟨[], []⟩,
 ⟨[], []⟩,
 ⟨[], []⟩,
 ⟨[], []⟩,
 ⟨[], []⟩,
 ⟨[], []⟩,
 ⟨[], []⟩,
 ⟨[], []⟩,
 ⟨[], []⟩,
 ⟨[], []⟩,
 ⟨[], []⟩,
 ⟨[], []⟩,
 ⟨[], []⟩,
 ⟨[], []⟩]
def u0 : Nat → Tab := fun f => Mt.getD f ⟨[], []⟩
theorem Ag : (Go.Proofs.Tryz.prog.funcs.all fun fn => !(fn.name == "runtime.NumGoroutine")) = true := by decide +kernel
theorem CK : qm Go.Proofs.Tryz.prog (fun _ => none) := fun _ _ _ _ h => by cases h
theorem Mq {kn : eh} (hkn : qm Go.Proofs.Tryz.prog kn) (fs : List Nat) (hfs : fs.all (xh Go.Proofs.Tryz.prog LL u0) = true) (fuel k : Nat) {f : Nat} {args : List aa} {v : aa} (ha : args.all flat = true) (h : ran (mb Go.Proofs.Tryz.prog LL u0 kn fuel fs k false f args [] 1000) = some v) : ah Go.Proofs.Tryz.prog f args [] fun r s => r = v ∧ s = [] := Mu gX mixed Ag u0 hkn fs hfs fuel k ha h
end Go.Rad
namespace Go.Rad
open Go Go.Proofs
def kIn : List aa → Option aa
 | [.int .u8 c, .str l] => req (decide (0 ≤ c) && Nat.ble l.size 1000000) (some (.bool (inS c.toNat l)))
 | _ => none
def BW : List (List aa) → Option (List Nat)
 | [] => some []
 | [.int .u8 n] :: l => req (decide (0 ≤ n) && decide (n ≤ 255)) ((BW l).map (n.toNat :: ·))
 | _ => none
theorem vJ : ∀ {l : List (List aa)} {bs : List Nat}, BW l = some bs → l = cp bs ∧ ∀ x ∈ bs, x ≤ 255
 | [], bs, h => by cases h; exact ⟨rfl, fun _ h => by cases h⟩
 | x :: l, bs, h => by
  unfold BW at h
  split at h
  ·rename_i h1; cases h1
  ·rename_i n l' h1
   cases h1
   simp only [aj, Bool.and_eq_true, decide_eq_true_eq] at h
   obtain ⟨⟨h1, h2⟩, h⟩ := h
   obtain ⟨bs', h3, rfl⟩ := aC h
   obtain ⟨h4, h5⟩ := vJ h3
   refine ⟨?_, fun x hx => ?_⟩
   ·rw [h4]; simp only [cp, List.map_cons]; rw [Int.toNat_of_nonneg h1]
   ·rcases List.mem_cons.1 hx with rfl | hx
    ·omega
    ·exact h5 x hx
  ·cases h
def BY : List (List aa) → Option (List av)
 | [] => some []
 | [.int .u64 a, .int .u64 b, .int .u64 c, .int .u64 d] :: l => (BY l).map (⟨a, b, c, d⟩ :: ·)
 | _ => none
theorem vL : ∀ {l : List (List aa)} {ss : List av}, BY l = some ss → l = DA ss
 | [], bs, h => by cases h; rfl
 | x :: l, bs, h => by
  unfold BY at h
  split at h
  ·rename_i h1; cases h1
  ·rename_i a b c d l' h1
   cases h1
   obtain ⟨bs', h3, rfl⟩ := aC h
   rw [vL h3]; rfl
  ·cases h
def kOf : List aa → Option aa
 | [.sl _ _ l] => (BW l).bind fun bs => req (Nat.ble bs.length 1000000) (some (.agg (bs.foldl cA av.none).cells))
 | _ => none
def zK : List aa → Option aa
 | [.int .u8 lo, .int .u8 hi] => req (decide (0 ≤ lo) && decide (lo ≤ 255) && decide (0 ≤ hi) && decide (hi ≤ 255)) (some (.agg (uY lo.toNat hi.toNat).cells))
 | _ => none
def kOr : List aa → Option aa
 | [.sl _ _ l] => (BY l).bind fun ss => req (Nat.ble ss.length 1000000) (some (.agg (orI ss).cells))
 | _ => none
def kNot : List aa → Option aa
 | [.agg [.int .u64 a, .int .u64 b, .int .u64 c, .int .u64 d]] => some (.agg (I7 ⟨a, b, c, d⟩).cells)
 | _ => none
def El : List aa → Option aa
 | [.str s] => req (Nat.ble s.size maxLen) (some (.bool (bl s)))
 | _ => none
def qM (f0 : Nat) (g : List aa → Option aa) (kn : eh) : eh := fun f => match Nat.beq f f0 with | true => some g | false => kn f
theorem gr {f0 : Nat} {g : List aa → Option aa} {kn : eh} (h : ∀ args v, g args = some v → ah Tryz.prog f0 args [] fun r s => r = v ∧ s = []) (hk : qm Tryz.prog kn) : qm Tryz.prog (qM f0 g kn) := by
 intro f g' args v hg hv
 unfold qM at hg
 split at hg
 ·rename_i e; cases hg; rw [Nat.eq_of_beq_eq_true e]; exact h args v hv
 ·exact hk f g' args v hg hv
def kn4 : eh := qM 155 kIn (qM 153 kOf (qM 172 zK (qM 173 kOr (qM 152 kNot (qM 40 El fun _ => none)))))
theorem IH : qm Tryz.prog kn4 := by
 refine gr (fun args v h => ?_) (gr (fun args v h => ?_) (gr (fun args v h => ?_) (gr (fun args v h => ?_) (gr (fun args v h => ?_) (gr (fun args v h => ?_) CK)))))
 ·unfold kIn at h
  split at h
  ·rename_i c l
   simp only [aj, Bool.and_eq_true, decide_eq_true_eq, Nat.ble_eq, Option.some.injEq] at h
   obtain ⟨⟨h1, h2⟩, rfl⟩ := h
   have := LQ c.toNat l h2
   rwa [Int.toNat_of_nonneg h1] at this
  ·cases h
 ·unfold kOf at h
  split at h
  ·simp only [Option.bind_eq_some_iff, aj, Nat.ble_eq, Option.some.injEq] at h
   obtain ⟨bs, h1, h2, rfl⟩ := h
   obtain ⟨rfl, h3⟩ := vJ h1
   exact of_c _ _ bs h3 h2
  ·cases h
 ·unfold zK at h
  split at h
  ·rename_i lo hi
   simp only [aj, Bool.and_eq_true, decide_eq_true_eq, Option.some.injEq] at h
   obtain ⟨⟨⟨⟨h1, h2⟩, h3⟩, h4⟩, rfl⟩ := h
   have := Dt lo.toNat hi.toNat (by omega) (by omega)
   rwa [Int.toNat_of_nonneg h1, Int.toNat_of_nonneg h3] at this
  ·cases h
 ·unfold kOr at h
  split at h
  ·simp only [Option.bind_eq_some_iff, aj, Nat.ble_eq, Option.some.injEq] at h
   obtain ⟨ss, h1, h2, rfl⟩ := h
   rw [vL h1]
   exact or_c _ _ ss h2
  ·cases h
 ·unfold kNot at h
  split at h
  ·cases h; exact Mc _ _ _ _
  ·cases h
 ·unfold El at h
  split at h
  ·simp only [aj, Nat.ble_eq, Option.some.injEq] at h
   obtain ⟨h1, rfl⟩ := h
   exact j8 _ h1
  ·cases h
def fsR : List Nat := [29, 48, 49, 50, 77, 78, 106, 133, 134, 150, 151, 154, 157, 158, 171, 156, 69, 174]
end Go.Rad
namespace Go.Rad
open Go Go.Proofs
theorem zb (q f : Bool) (l : List Int) (hl : l.length ≤ 1000000) : ah Tryz.prog 82 [.sl q f (ints l)] [] fun r s => r = .sl true false (ints l) ∧ s = [] := by
 refine (mu q f l hl).nH ?_
 rintro r s (⟨rfl, rfl, rfl⟩ | ⟨h, rfl, rfl⟩)
 ·exact .inr (.inl ⟨_, _, _, rfl, rfl, rfl⟩)
 ·exact .inl ⟨5, h, 1, ints l, by simp, rfl, rfl, rfl⟩
def BX : List (List aa) → Option (List Int)
 | [] => some []
 | [.int .i64 n] :: l => (BX l).map (n :: ·)
 | _ => none
theorem vK : ∀ {l : List (List aa)} {bs : List Int}, BX l = some bs → l = ints bs
 | [], bs, h => by cases h; rfl
 | x :: l, bs, h => by
  unfold BX at h
  split at h
  ·rename_i h1; cases h1
  ·rename_i n l' h1
   cases h1
   obtain ⟨bs', h3, rfl⟩ := aC h
   rw [vK h3]; rfl
  ·cases h
def zJ : List aa → Option aa
 | [.sl _ _ l] => (BX l).bind fun bs => req (Nat.ble bs.length 1000000) (some (.sl true false (ints bs)))
 | _ => none
def IG : eh := qM 82 zJ kn4
theorem vU : qm Tryz.prog IG := by
 refine gr (fun args v h => ?_) IH
 unfold zJ at h
 split at h
 ·simp only [Option.bind_eq_some_iff, aj, Nat.ble_eq, Option.some.injEq] at h
  obtain ⟨bs, h1, h2, rfl⟩ := h
  rw [vK h1]
  exact zb _ _ _ h2
 ·cases h
end Go.Rad
namespace Go.Rad
open Go
variable {P : Program} {L : Lay}
def ua : Nat → aa → Sto → Option (aa × Sto)
 | 0, v, s => some (v, s)
 | k + 1, v, s =>
  match jX (sw v) with
  | none => some (v, s)
  | some id =>
   match ak s id with
   | some (g, .row _ l) => req (uS id g l.length v && o9 id g l.length (ca s id)) (ua k (rf id g l v) (rfS id g l (ca s id)))
   | _ => none
theorem sx {E : Gh} {e : Ending} {w' : World} {r : Nat → Nat} : ∀ (k : Nat) {v v' : aa} {s s' : Sto}, ua k v s = some (v', s') → fA E (fun v1 s1 => v1 = mg r v ∧ s1 = mgS r s) e w' → fA E (fun v1 s1 => v1 = mg r v' ∧ s1 = mgS r s') e w'
 | 0, v, v', s, s', h, hp => by
  simp only [ua, Option.some.injEq, Prod.mk.injEq] at h; obtain ⟨rfl, rfl⟩ := h
  exact hp
 | k + 1, v, v', s, s', h, hp => by
  simp only [ua] at h
  split at h
  ·cases h; exact hp
  ·obtain ⟨G', cr, r1, s1, h1, h2, h3, h4, h5, h6, h7⟩ := hp
   split at h
   ·rename_i id _ g esz l hg
    simp only [aj, Bool.and_eq_true] at h
    obtain ⟨⟨hk1, hk2⟩, h⟩ := h
    subst h6 h7
    obtain ⟨G2, q1, q2, q3, q4⟩ := ga (g := r g) (esz := esz) (l := l) h3 h4 (by rw [aZ, hg]; rfl)
    refine sx k h ⟨G2, cr, _, _, h1, h2.trans q1, q2, q3, q4 _ _ h5, AB hk1, ?_⟩
    rw [← eY, ← jE _ hk2]
   ·cases h
def Jq (ids : List Nat) (x : Option (aa × Sto × Nat)) : Option (aa × Sto) := x.bind fun x => (ua 4 x.1 (cy (ly x.2.1 ++ ids) x.2.1)).map fun y => (y.1, cy ids y.2)
theorem Mv (hL : LOk P L) (hm : P.follows .mixedOrders = true) (hn : (P.funcs.all fun fn => !(fn.name == "runtime.NumGoroutine")) = true) (tab : Nat → Tab) {kn : eh} (hkn : qm P kn) (fs : List Nat) (hfs : fs.all (xh P L tab) = true) (fuel k : Nat) (ids : List Nat) {f : Nat} {args : List aa} {sto sto' : Sto} {v : aa}
  (h : Jq ids (mb P L tab kn fuel fs k false f args sto 2000) = some (v, sto')) (hb : (bdS 2000 sto' && flat v) = true) (r : Nat → Nat) : ah P f (args.map (mg r)) (mgS r sto) fun v1 s1 => v1 = v ∧ s1 = mgS r sto' := by
 simp only [Bool.and_eq_true] at hb
 simp only [Jq, Option.bind_eq_some_iff] at h
 obtain ⟨⟨u, s, n⟩, h1, h2⟩ := h
 obtain ⟨⟨u2, s2⟩, h3, he⟩ := aC h2
 simp only [Prod.mk.injEq] at he h3
 obtain ⟨rfl, rfl⟩ := he
 have h4 := (oQ hL hm hn s9 hkn hfs k false f args sto 2000 _ _ _ h1).2.2 r
 refine ⟨h4.able, fun G w cargs a b c => (h4.calls G w cargs a b c).mono fun e w' p => ?_⟩
 obtain ⟨G', cr, r1, s1, x1, x2, x3, x4, x5, r', hag, rfl, rfl⟩ := p
 have p2 := sx (r := r') 4 h3 ⟨G', cr, _, _, x1, x2, x3, fg (ly s ++ ids) x4, x5, rfl, (kE s).symm⟩
 obtain ⟨G', cr, r1, s1, x1, x2, x3, x4, x5, rfl, rfl⟩ := p2
 refine ⟨G', cr, _, _, x1, x2, x3, fg ids x4, x5, cK (ey hb.2), ?_⟩
 rw [← kE]
 exact (nS hag hb.1).symm
end Go.Rad
namespace Go.Rad
open Go Go.Proofs
set_option linter.all false
set_option maxRecDepth 20000
set_option maxHeartbeats 4000000
theorem ah.DT {P : Program} {f : Nat} {a c : aa} {e : Bool} {l : List (List aa)} {rest : List aa} {sto : Sto} {T : aa → Sto → Prop} (h : ah P f (.agg [a, .sl true false l, c] :: rest) sto T) : ah P f (.agg [a, .sl true e l, c] :: rest) sto T :=
 ⟨h.able, fun G w cargs hw hs ha => h.calls G w cargs hw hs ⟨by simpa using ha.1, fun j x hx => by
  match j, hx with
  | 0, hx =>
   cases hx
   have h0 := ha.2 0 _ rfl
   generalize cargs.getD 0 undef = u at h0 ⊢
   cases h0 with
   | agg h1 h2 h3 =>
    refine .agg h1 (fun j x hx => ?_) fun j x hx => ?_
    ·match j, hx with
     | 0, hx => exact h2 0 x hx
     | 1, hx => cases hx; rfl
     | 2, hx => exact h2 2 x hx
    ·match j, hx with
     | 0, hx => exact h3 0 x hx
     | 1, hx => cases hx; exact gF (h3 1 _ rfl)
     | 2, hx => exact h3 2 x hx
  | j + 1, hx => exact ha.2 (j + 1) x hx⟩⟩
abbrev yk : ByteArray := ⟨#[114, 117, 108, 101, 32, 42, 32, 45, 32, 73, 68, 32, 91, 97, 45, 122, 93, 43]⟩
abbrev ym : ByteArray := ⟨#[114, 117, 108, 101, 32, 42, 32, 45, 32, 115, 107, 105, 112, 32, 92, 120, 50, 48, 43]⟩
abbrev t17 : ByteArray := ⟨#[114, 117, 108, 101, 32, 42, 32, 45, 32, 73, 68, 32, 91, 97, 45, 122, 93, 43, 10, 114, 117, 108, 101, 32, 42, 32, 45, 32, 115, 107, 105, 112, 32, 92, 120, 50, 48, 43]⟩
abbrev pq : ByteArray := ⟨#[114, 117, 108, 101]⟩
abbrev vG : ByteArray := ⟨#[42]⟩
abbrev bId : ByteArray := ⟨#[73, 68]⟩
abbrev Ef : ByteArray := ⟨#[115, 107, 105, 112]⟩
abbrev bAz : ByteArray := ⟨#[91, 97, 45, 122, 93, 43]⟩
abbrev bSp : ByteArray := ⟨#[92, 120, 50, 48, 43]⟩
abbrev f17a : Fo := .node ⟨5, av.none, 1, -1, ByteArray.empty⟩ (.node ⟨2, ⟨0, 576460743713488896, 0, 0⟩, 0, 0, ByteArray.empty⟩ .nil .nil) .nil
abbrev f17b : Fo := .node ⟨5, av.none, 1, -1, ByteArray.empty⟩ (.node ⟨2, ⟨4294967296, 0, 0, 0⟩, 0, 0, ByteArray.empty⟩ .nil .nil) .nil
abbrev Bn : List Node := [⟨2, ⟨0, 576460743713488896, 0, 0⟩, [], 0, 0, ByteArray.empty⟩, ⟨5, av.none, [0], 1, -1, ByteArray.empty⟩]
abbrev D3 : List Node := [⟨2, ⟨4294967296, 0, 0, 0⟩, [], 0, 0, ByteArray.empty⟩, ⟨5, av.none, [0], 1, -1, ByteArray.empty⟩]
abbrev pb : Ru := ⟨[0], false, false, bId, -1, 12, Bn⟩
abbrev uX : Ru := ⟨[0], false, false, ⟨#[]⟩, -1, 33, D3⟩
def zx : List Nat := fsR ++ [60, 61, 116, 89, 90, 88]
theorem vP : zx.all (xh Tryz.prog LL u0) = true := by decide +kernel
theorem tl {f : Nat} {args : List aa} {v : aa} (ha : args.all flat = true) (h : ran (mb Tryz.prog LL u0 IG 10000 zx 60 false f args [] 1000) = some v) : ah Tryz.prog f args [] fun r s => r = v ∧ s = [] := Mq vU zx vP 10000 60 ha h
theorem pU {f : Nat} {a : Int} {s : ByteArray} {rs : List Ru} {v : aa} (h : Jq [1000, 1001] (mb Tryz.prog LL u0 IG 10000 zx 60 false f [.bx 1000 0 0, .agg (lnV a s)] (pst 0 1 [bn] rs) 2000) = some (v, pst 0 1 [bn] rs)) (hb : (bdS 2000 (pst 0 1 [bn] rs) && flat v) = true) (g g1 : Nat) :
  ah Tryz.prog f [.bx 1000 g 0, .agg (lnV a s)] (pst g g1 [bn] rs) fun r s => r = v ∧ s = pst g g1 [bn] rs :=
 Mv gX mixed Ag u0 vU zx vP 10000 60 [1000, 1001] h hb (fun n => match n with | 0 => g | _ => g1)
theorem p17l : ah Tryz.prog 60 [.str t17] [] fun r s => r = .sl true false [lnV 0 yk, lnV 19 ym] ∧ s = [] := tl rfl (by kernel_rfl)
theorem Mj : ah Tryz.prog 61 [.agg (lnV 0 yk), .int .i64 4] [] fun r s => r = .sl true false [lnV 0 pq, lnV 5 vG, lnV 7 ⟨#[45]⟩, lnV 9 bId, lnV 12 bAz] ∧ s = [] := tl rfl (by kernel_rfl)
theorem Mk : ah Tryz.prog 61 [.agg (lnV 19 ym), .int .i64 4] [] fun r s => r = .sl true false [lnV 19 pq, lnV 24 vG, lnV 26 ⟨#[45]⟩, lnV 28 Ef, lnV 33 bSp] ∧ s = [] := tl rfl (by kernel_rfl)
theorem Ml : ah Tryz.prog 61 [.agg (lnV 0 yk), .int .i64 1] [] fun r s => r = .sl true false [lnV 0 pq, lnV 5 ⟨#[42, 32, 45, 32, 73, 68, 32, 91, 97, 45, 122, 93, 43]⟩] ∧ s = [] := tl rfl (by kernel_rfl)
theorem Mm : ah Tryz.prog 61 [.agg (lnV 19 ym), .int .i64 1] [] fun r s => r = .sl true false [lnV 19 pq, lnV 24 ⟨#[42, 32, 45, 32, 115, 107, 105, 112, 32, 92, 120, 50, 48, 43]⟩] ∧ s = [] := tl rfl (by kernel_rfl)
theorem Mn (g g1 : Nat) : ah Tryz.prog 64 [.bx 1000 g 0, .agg (lnV 0 yk)] (pst g g1 [bn] []) fun r s => r = .tup [] ∧ ∃ h1, s = pst g h1 [bn] [pb] :=
 tj [bn] [] g g1 0 0 5 7 9 12 (-1) yk pq vG bId bAz bId [0] Bn (by decide) Mj (pU (by kernel_rfl) (by kernel_rfl) g g1) (pU (by kernel_rfl) (by kernel_rfl) g g1) (pU (by kernel_rfl) (by kernel_rfl) g g1)
theorem Mo (g g1 : Nat) : ah Tryz.prog 64 [.bx 1000 g 0, .agg (lnV 19 ym)] (pst g g1 [bn] [pb]) fun r s => r = .tup [] ∧ ∃ h1, s = pst g h1 [bn] [pb, uX] :=
 tj [bn] [pb] g g1 19 19 24 26 28 33 (-1) ym pq vG Ef bSp ⟨#[]⟩ [0] D3 (by decide) Mk (pU (by kernel_rfl) (by kernel_rfl) g g1) (pU (by kernel_rfl) (by kernel_rfl) g g1) (pU (by kernel_rfl) (by kernel_rfl) g g1)
theorem p17p : ah Tryz.prog 36 [.str t17] [] fun r s => r = .tup [.agg [.sl true false (cz [bn]), .sl true true [], .sl true false (bm [pb, uX])], .int .i64 0, .int .i64 0] ∧ s = [] := by
 refine xP (lns := [(0, yk), (19, ym)]) (rs := [pb, uX]) ⟨by decide, rfl, by decide, by decide, p17l, ?_, ?_, ?_, ?_⟩
 ·intro x hx
  simp only [List.mem_cons, List.not_mem_nil, or_false] at hx
  rcases hx with rfl | rfl <;> exact ⟨by decide, by decide, by decide +kernel⟩
 ·intro x hx
  simp only [List.mem_cons, List.not_mem_nil, or_false] at hx
  rcases hx with rfl | rfl
  ·exact ⟨_, _, Ml⟩
  ·exact ⟨_, _, Mm⟩
 ·intro i x hx g g1
  match i, hx with
  | 0, hx => cases hx; exact Mn g g1
  | 1, hx => cases hx; exact Mo g g1
 ·intro r hr
  have key : ∀ x : List Node, x.length ≤ maxLen → (∀ n ∈ x, n.name.size ≤ maxLen ∧ n.l.length ≤ maxLen) → ay x [] = (x, 0) → ∃ X, ah Tryz.prog 42 [.sl true false (nodes x), .sl true true []] [] fun v s => v = .tup [.sl true false (nodes X), .int .i64 0] ∧ s = [] := fun x h1 h2 h3 => by
   have := (kV true false true true x [] h1 h2 (by decide) (fun d hd => by cases hd)).flat
   rw [h3] at this
   exact ⟨x, this⟩
  simp only [List.mem_cons, List.not_mem_nil, or_false] at hr
  rcases hr with rfl | rfl
  ·exact key _ (by decide) (by decide) (by decide +kernel)
  ·exact key _ (by decide) (by decide) (by decide +kernel)
abbrev mi : Fl := ⟨[bn], [], [pb, uX]⟩
abbrev w17 : ByteArray := ⟨#[105, 102, 33, 32, 120]⟩
def g17 (n : Nat) (x : List Node) : Int × Bool := if x = Bn then fS (jA w17 f17a n) n else fS (jA w17 f17b n) n
theorem Dy : bG mi = true := by decide +kernel
theorem DO : cN mi = [Bn, D3] := by decide +kernel
theorem C7 : cL mi w17 g17 0 0 = (⟨0, 0, 2⟩, 0) := by decide +kernel
theorem C8 : cL mi w17 g17 2 0 = (⟨-1, 2, 3⟩, 0) := by decide +kernel
theorem C9 : cL mi w17 g17 3 0 = (⟨1, 3, 4⟩, 0) := by decide +kernel
theorem Da : cL mi w17 g17 4 0 = (⟨0, 4, 5⟩, 0) := by decide +kernel
theorem kI {F : Fl} {w : ByteArray} {g : Nat → List Node → Int × Bool} {n m : Nat} {c c' : Int} {l l' : List Tk} {t : Tk} (hn : n < w.size) (e : cL F w g n c = (t, c')) (ht : t.b = m) (h : mc F w g m c' l) (hl : (if lP F.rules t = true then t :: l else l) = l') : mc F w g n c l' := by
 have := mc.step (F := F) (w := w) (g := g) (n := n) (m := m) (c := c) (l := l) hn (by rw [e]; exact ht) (by rw [e]; exact h)
 rw [e] at this
 rw [← hl]; exact this
theorem JM : mc mi w17 g17 0 0 [⟨0, 0, 2⟩, ⟨-1, 2, 3⟩, ⟨0, 4, 5⟩] :=
 kI (by decide) C7 rfl (kI (by decide) C8 rfl (kI (by decide) C9 rfl (kI (by decide) Da rfl (.done (by decide)) rfl) rfl) rfl) rfl
theorem ok17 : jR mi w17 g17 ∧ r8 Tryz.prog 67 mi w17 g17 := by
 have hfo : ∀ x ∈ cN mi, ∃ fo : Fo, fo.deg = 1 ∧ x = fo.lay 0 ∧ fo.cM = true ∧ fo.size ≤ 1024 ∧ no6 fo = true ∧ (∀ n ∈ fo.lay 0, ∀ k, 0 ≤ n.s.word k) ∧ ∀ n, g17 n x = fS (jA w17 fo n) n := by
  rw [DO]
  intro x hx
  have hw : ∀ {s : av} {o : Node}, (∀ k, 0 ≤ s.word k) → (o = ⟨2, s, [], 0, 0, ByteArray.empty⟩ ∨ o = ⟨5, av.none, [0], 1, -1, ByteArray.empty⟩) → ∀ k, 0 ≤ o.s.word k := by
   rintro s o hs (rfl | rfl) k
   ·exact hs k
   ·exact jc sZ k
  simp only [List.mem_cons, List.not_mem_nil, or_false] at hx
  rcases hx with rfl | rfl
  ·refine ⟨f17a, rfl, rfl, by decide +kernel, by decide +kernel, by decide +kernel, fun n hn => ?_, fun n => if_pos rfl⟩
   have hn : n ∈ Bn := hn
   simp only [List.mem_cons, List.not_mem_nil, or_false] at hn
   exact hw (jc ⟨⟨by decide, by decide⟩, ⟨by decide, by decide⟩, ⟨by decide, by decide⟩, ⟨by decide, by decide⟩⟩) hn
  ·refine ⟨f17b, rfl, rfl, by decide +kernel, by decide +kernel, by decide +kernel, fun n hn => ?_, fun n => if_neg (by decide +kernel)⟩
   have hn : n ∈ D3 := hn
   simp only [List.mem_cons, List.not_mem_nil, or_false] at hn
   exact hw (jc ⟨⟨by decide, by decide⟩, ⟨by decide, by decide⟩, ⟨by decide, by decide⟩, ⟨by decide, by decide⟩⟩) hn
 have hru : ∀ r ∈ mi.rules, wB r := by
  intro r hr
  have hr : r ∈ [pb, uX] := hr
  simp only [List.mem_cons, List.not_mem_nil, or_false] at hr
  rcases hr with rfl | rfl
  ·exact ⟨by decide, by decide, by decide⟩
  ·exact ⟨by decide, by decide, by decide⟩
 have hfl : gQ mi := ⟨by decide, by decide +kernel, by decide, (fun d hd => nomatch hd), by decide, hru⟩
 refine ⟨⟨hfl, Dy, by decide, fun n hn x hx h2 => ?_⟩, fun n hn x hx => ?_⟩
 all_goals obtain ⟨fo, f1, f2, f3, f4, f5, f6, f7⟩ := hfo x hx
 ·obtain ⟨⟨y, b⟩, hy⟩ : ∃ p, g17 n x = p := ⟨_, rfl⟩
  rw [hy] at h2 ⊢
  simp only at h2
  subst h2
  rw [f7] at hy
  obtain ⟨h3, h4, _⟩ := ld hy
  obtain ⟨k, rfl, h5, h6, _⟩ := (eL f1 f3 n y).1 h3
  exact ⟨k, rfl, by omega, h6⟩
 ·have hE := pz (w := w17) (by decide) false fo f1 f3 f4 f5 f6 n (by omega)
  rw [← f2] at hE
  rw [f7]
  refine pN hE (by have := jV (w := w17) f1 n; show (jA w17 fo n).length ≤ _; have : w17.size = 5 := rfl; omega) fun y hy => ?_
  obtain ⟨k, rfl, h5, _⟩ := (eL f1 f3 n y).1 hy
  omega
theorem yf : ah Tryz.prog 14 [] [] fun r s => r = .bool true ∧ s = [] := by
 have hp := p17p
 have hl : ah Tryz.prog 17 [.agg [.sl true false (cz [bn]), .sl true true [], .sl true false (bm [pb, uX])], .str w17] [] fun r s => (∃ fl, r = .tup [.sl true fl [[.int .i64 0, .int .i64 0, .int .i64 2], [.int .i64 (-1), .int .i64 2, .int .i64 3], [.int .i64 0, .int .i64 4, .int .i64 5]], .int .i64 0]) ∧ s = [] := (qc ok17.1 ok17.2 _ JM).DT (e := true)
 have hs : ∀ q f q' f', ah Tryz.prog 24 [.sl q f [[.int .i64 0, .int .i64 0, .int .i64 2], [.int .i64 (-1), .int .i64 2, .int .i64 3], [.int .i64 0, .int .i64 4, .int .i64 5]], .sl q' f' [[.int .i64 0, .int .i64 0, .int .i64 2], [.int .i64 (-1), .int .i64 2, .int .i64 3], [.int .i64 0, .int .i64 4, .int .i64 5]]] [] fun r s => r = .bool true ∧ s = [] := fun q f q' f' => AG q f q' f' [⟨0, 0, 2⟩, ⟨-1, 2, 3⟩, ⟨0, 4, 5⟩] (by decide)
 generalize cz [bn] = A at *
 generalize bm [pb, uX] = B at *
 refine ah.enter Tryz.func14 rfl (by kernel_rfl) (Nat.le_of_ble_eq_true rfl) ?_; simp only [ai, Nat.reduceAdd]
 repeat' (first
 | refine gCt rfl ?_
 | ((first
 | ((first | refine gRg [23] fp14 ?_); intro K hK)
 | refine cAl (hp) rfl rfl rfl ?_
 | refine cAl (hs _ _ _ _) rfl rfl rfl ?_
 | (refine ah.use [] [] rfl hl rfl rfl rfl ?_; rintro _ _ ⟨⟨fl, rfl⟩, rfl⟩; refine ⟨.inl rfl, rfl, ?_⟩; simp only [bk, bk2, bk1, bkS, bkO, bw, aH, go_sem, simprocAttr])
 | (refine ab ?_ ?_ <;> intro hb <;> (try simp only [bls] at hb) <;> (try simp only [hb]))
 | refine gRe [] [.tmp 0] rfl rfl ?_) <;> (try simp only [go_sem, simprocAttr]))
 | (refine hK _ _ ?_; clear hK K; simp only [go_sem, simprocAttr])
 | refine gCd ?_ | refine brT ?_ | refine brF ?_
 | (refine brS ?_ ?_ <;> intro hc <;> (try simp only [bls] at hc) <;> (try simp only [hc, bls]))
 | intro _ | refine And.intro ?_ ?_)
 all_goals try exact zsd
end Go.Rad
namespace Go.Rad
open Go Go.Proofs
set_option linter.all false
set_option maxRecDepth 20000
set_option maxHeartbeats 4000000
def um (w : ByteArray) : List Nat := w.data.toList.map UInt8.toNat
theorem uo {w : ByteArray} {i k : Nat} : um (w.extract i k) = fF w i k := by
 unfold um fF
 rw [ByteArray.data_extract, Array.toList_extract, List.extract_eq_take_drop, List.map_take, List.map_drop]
theorem yj {w : ByteArray} {i k : Nat} : fF (w.extract i k) 0 (k - i) = fF w i k := by
 have h := uo (w := w) (i := i) (k := k)
 unfold um at h
 unfold fF at h ⊢
 rw [h, List.drop_zero, List.take_take, Nat.sub_zero, Nat.min_self]
theorem DM {F : Fl} {w : ByteArray} {g : Nat → List Node → Int × Bool} (h : jR F w g) {n : Nat} {c : Int} {l : List Tk} (hl : mc F w g n c l) : l.length ≤ w.size - n := by
 induction hl with
 | done _ => exact Nat.zero_le _
 | @step n m c l h1 h2 h3 ih =>
  obtain ⟨⟨m', e1, e2, e3⟩, _⟩ := kh h h1 c
  have hm : m' = m := by omega
  split
  ·rw [List.length_cons]; omega
  ·omega
theorem zE {x : List Node} (hp : cg x = true) (hss : ∀ n ∈ x, ∀ k, 0 ≤ n.s.word k) {w : ByteArray} {a b : Nat} (hw : w.size ≤ 900000) (hab : a ≤ b) (hb : b ≤ w.size) (hg : gW w a x = ((b : Int), true)) :
  ah Tryz.prog 20 [.sl true false (nodes x), .str (w.extract a b)] [] fun r s => r = .bool true ∧ s = [] := by
 obtain ⟨f1, f2, f3, f4, f5⟩ := pA hp
 have hsz : (w.extract a b).size = b - a := by rw [ByteArray.size_extract]; omega
 have hE := nw (w := w.extract a b) (by omega) false (je x) f1 f3 f4 f5 0 (Nat.zero_le _)
 rw [← f2] at hE
 have hI := LS hE (by have := jV (w := w.extract a b) f1 0; show (jA (w.extract a b) (je x) 0).length ≤ _; omega) (w8 _ _ _) fun y hy => by
  obtain ⟨k, rfl, _, h2, _⟩ := (eL f1 f3 0 y).1 hy
  omega
 obtain ⟨h1, _, _⟩ := ld hg
 obtain ⟨k, hk, _, _, h4⟩ := (eL f1 f3 a _).1 h1
 have hk : k = b := by omega
 subst hk
 have hm : (((w.extract a k).size : Nat) : Int) ∈ jA (w.extract a k) (je x) 0 := (eL f1 f3 0 _).2 ⟨k - a, by rw [hsz], Nat.zero_le _, by omega, by rw [yj]; exact h4⟩
 have hc : (jA (w.extract a k) (je x) 0).contains (((w.extract a k).size : Nat) : Int) = true := by simpa using hm
 refine hI.mono fun r s h => ?_
 rw [← show (jA (w.extract a k) (je x) 0).contains (((w.extract a k).size : Nat) : Int) = true from hc]
 exact h
structure TkOf (F : Fl) (w : ByteArray) (a b m : Nat) (r : Ru) : Prop where
 rule : F.rules[m]? = some r
 kind : ¬ r.kind = ⟨#[]⟩
 far : gW w a (bS F m).1 = ((b : Int), true)
 head : r.line = true → a = 0 ∨ cd w (a - 1) = 10
def Ordered (F : Fl) (w : ByteArray) : Nat → List Tk → Prop
 | _, [] => True
 | n, t :: l => ∃ a b : Nat, t.a = a ∧ t.b = b ∧ n ≤ a ∧ a < b ∧ b ≤ w.size ∧ ((t.rule = -1 ∧ b = a + 1) ∨ ∃ m r, t.rule = ((m : Nat) : Int) ∧ TkOf F w a b m r) ∧ Ordered F w b l
theorem uU {F : Fl} {w : ByteArray} : ∀ {l : List Tk} {n m : Nat}, m ≤ n → Ordered F w n l → Ordered F w m l
 | [], _, _, _, _ => trivial
 | _ :: _, _, _, h, ⟨a, b, h1, h2, h3, h4⟩ => ⟨a, b, h1, h2, Nat.le_trans h h3, h4⟩
theorem Dc {F : Fl} {w : ByteArray} (h : jR F w (gW w)) {n : Nat} (hn : n < w.size) (c : Int) : (cL F w (gW w) n c).1 = ⟨-1, n, ((n + 1 : Nat) : Int)⟩ ∨ ∃ (m b : Nat) (r : Ru), (cL F w (gW w) n c).1 = ⟨m, n, b⟩ ∧ F.rules[m]? = some r ∧ gW w n (bS F m).1 = ((b : Int), true) ∧ mS w r n c = true := by
 rcases kR (w := w) (g := gW w n) (l := F.rules.zip (cN F)) (n := n) (c := c) with hb | ⟨k, x, hx, hb, h2, h5⟩
 ·left
  unfold cL kg
  rw [hb]
  simp
 ·right
  obtain ⟨h3, h4⟩ := List.getElem?_zip_eq_some.1 hx
  have hk := (List.getElem?_eq_some_iff.1 h3).1
  rw [jK hk] at h4
  simp only [Option.some.injEq] at h4
  obtain ⟨m, e, _, _⟩ := h.far n hn x.2 (by rw [← h4]; exact List.mem_of_getElem? (jK hk)) h2
  have e1 : ¬ (k : Int) = -1 := by omega
  refine ⟨k, m, x.1, ?_, h3, ?_, h5⟩
  ·unfold cL kg
   rw [hb]
   simp [e1, e]
  ·rw [h4, ← e, ← h2]
theorem rC {F : Fl} {w : ByteArray} (h : jR F w (gW w)) {n : Nat} {c : Int} {l : List Tk} (hl : mc F w (gW w) n c l) : Ordered F w n l := by
 induction hl with
 | done _ => trivial
 | @step n m c l h1 h2 h3 ih =>
  obtain ⟨⟨m', e1, e2, e3⟩, _⟩ := kh h h1 c
  have hm : m' = m := by omega
  subst hm
  rcases Dc h h1 c with e | ⟨k, b, r, e, hr, hg, ha⟩
  ·rw [e] at h2 ⊢
   simp only at h2
   rw [if_pos (by simp [lP])]
   exact ⟨n, m', rfl, by simp only; omega, Nat.le_refl _, e2, e3, .inl ⟨rfl, by omega⟩, ih⟩
  ·rw [e] at h2 ⊢
   simp only at h2
   have hb : b = m' := by omega
   subst hb
   split
   ·rename_i hk
    refine ⟨n, b, rfl, rfl, Nat.le_refl _, e2, e3, .inr ⟨k, r, rfl, hr, ?_, hg, ?_⟩, ih⟩
    ·have k1 : ¬ (k : Int) = -1 := by omega
     simp only [lP, k1, decide_false, Bool.false_or, Int.toNat_natCast, hr] at hk
     simpa using hk
    ·intro hli
     unfold mS at ha
     simp only [hli, Bool.not_true, Bool.false_or, Bool.and_eq_true, Bool.or_eq_true, decide_eq_true_eq] at ha
     exact ha.2
   ·exact uU (by omega) ih
end Go.Rad
namespace Go.Rad
open Go Go.Proofs
set_option linter.all false
set_option maxRecDepth 20000
set_option maxHeartbeats 4000000
theorem va (F : Fl) (w : ByteArray) (hT : FlT F) (hw : w.size ≤ maxLen) : ah Tryz.prog 3 [.agg F.cells, .str w] [] fun r _ => r = .bool true := by
 have hsh := yf
 have hli := xC F hT
 have htx := AW w hw
 have hy : (w.extract 0 (min w.size 30)).size ≤ 30 := by simp; omega
 clear hw
 generalize w.extract 0 (min w.size 30) = y at htx hy
 by_cases hd : F.defs.length ≤ 6
 case neg =>
  obtain ⟨cs, ds, rs⟩ := F
  simp only at *
  refine ah.enter Tryz.func3 rfl (by kernel_rfl) (Nat.le_of_ble_eq_true rfl) ?_; simp only [ai, Nat.reduceAdd]
  repeat' (first
 | refine gCt rfl ?_
 | ((first
 | ((first | refine gR fp3 ?_); intro K hK)
 | refine cAl (hsh) rfl rfl rfl ?_
 | (refine ah.use [] [] rfl hli rfl rfl rfl ?_; rintro _ _ ⟨⟨bb, rfl, hbb⟩, rfl⟩; cases bb <;> (first | exact absurd (hbb rfl) hd | (refine ⟨.inl rfl, rfl, ?_⟩; simp only [bk, bk2, bk1, bkS, bkO, bw, aH, go_sem, simprocAttr])))
 | (refine ab ?_ ?_ <;> intro hb <;> (try simp only [bls] at hb) <;> (try simp only [hb]))
 | refine gRe [] [.tmp 4] rfl rfl ?_) <;> (try simp only [go_sem, simprocAttr]))
 | (refine hK _ _ ?_; clear hK K; simp only [go_sem, simprocAttr])
 | refine gCd ?_ | refine brT ?_ | refine brF ?_
 | (refine brS ?_ ?_ <;> intro hc <;> (try simp only [bls] at hc) <;> (try simp only [hc, bls]))
 | intro _ | refine And.intro ?_ ?_)
  all_goals try exact zsd
 have hF := nE hT (by omega)
 have hlen : ∀ r ∈ F.rules, r.l.length ≤ maxLen := fun r hr => (hT.rs r hr).2.2.1
 have hR := oc F hF hlen
 by_cases h : bG F = true
 case neg =>
  have h' : bG F = false := by simpa using h
  have hl := (tM F y hF h').flat
  rw [h'] at hR
  clear hF hlen hT h h'
  have e0 : (fY []).length = 0 := rfl
  generalize fY [] = tv at hl e0
  obtain ⟨cs, ds, rs⟩ := F
  simp only at *
  refine ah.enter Tryz.func3 rfl (by kernel_rfl) (Nat.le_of_ble_eq_true rfl) ?_; simp only [ai, Nat.reduceAdd]
  repeat' (first
 | refine gCt rfl ?_
 | ((first
 | ((first | refine gR fp3 ?_); intro K hK)
 | refine cAl (hsh) rfl rfl rfl ?_
 | refine cAl (htx) rfl rfl rfl ?_
 | refine cAl (hl) rfl rfl rfl ?_
 | refine cAl (hR) rfl rfl rfl ?_
 | (refine ah.use [] [] rfl hli rfl rfl rfl ?_; rintro _ _ ⟨⟨bb, rfl, hbb⟩, rfl⟩; cases bb <;> (refine ⟨.inl rfl, rfl, ?_⟩; simp only [bk, bk2, bk1, bkS, bkO, bw, aH, go_sem, simprocAttr]))
 | (refine ab ?_ ?_ <;> intro hb <;> (try simp only [bls] at hb) <;> (try simp only [hb]))
 | refine gRe [] [.tmp 4] rfl rfl ?_) <;> (try simp only [go_sem, simprocAttr, e0]))
 | (refine hK _ _ ?_; clear hK K; simp only [go_sem, simprocAttr])
 | refine gCd ?_ | refine brT ?_ | refine brF ?_
 | (refine brS ?_ ?_ <;> intro hc <;> (try simp only [bls] at hc) <;> (try simp only [hc, bls]))
 | intro _ | refine And.intro ?_ ?_)
  all_goals try exact zsd
 obtain ⟨h1, h2, h3⟩ := CX hT (by omega : F.defs.length ≤ 900000) h (by omega : y.size ≤ 900000)
 obtain ⟨S, hS⟩ := yo h1 _ 0 0 rfl
 have hl := (qc h1 h2 S hS).flat
 have hSl : S.length ≤ 30 := by have := DM h1 hS; omega
 have hord := rC h1 hS
 obtain ⟨_, _, h64, _⟩ := iy h
 have hTr : ∀ i, i < F.rules.length → ah Tryz.prog 19 [.agg F.cells, .int .i64 i] [] fun r s => r = .tup [.sl true false (nodes (bS F i).1), .int .i64 0] ∧ s = [] := fun i hi => by
  have := (qd F i ⟨by show (-9223372036854775808 : Int) ≤ _; omega, by show _ ≤ (9223372036854775807 : Int); omega⟩ hF hlen).flat
  rw [tN h hi] at this; exact this
 have hIs : ∀ {a b m : Nat} {r : Ru}, a < b → b ≤ y.size → TkOf F y a b m r → ah Tryz.prog 20 [.sl true false (nodes (bS F m).1), .str (y.extract a b)] [] fun r s => r = .bool true ∧ s = [] := fun hab hb ht => by
  obtain ⟨hp, hs⟩ := jJ hT h (List.getElem?_eq_some_iff.1 ht.rule).1
  exact zE hp hs (by omega) (by omega) hb ht.far
 clear h1 h2 h3 hS hF hlen hT h hR
 obtain ⟨cs, ds, rs⟩ := F
 simp only at *
 refine ah.enter Tryz.func3 rfl (by kernel_rfl) (Nat.le_of_ble_eq_true rfl) ?_; simp only [ai, Nat.reduceAdd]
 repeat' (first
 | refine gCt rfl ?_
 | ((first
 | (refine ae.at 4 ?_; (refine ae.eI 2 2 rfl rfl rfl ?_; simp only [go_sem, simprocAttr]); refine gR fp3 ?_; intro K hK)
 | ((first | refine gR fp3 ?_); intro K hK)
 | refine cAl (hsh) rfl rfl rfl ?_
 | refine cAl (htx) rfl rfl rfl ?_
 | refine cAl (hl) rfl rfl rfl ?_
 | (refine ah.use [] [] rfl hli rfl rfl rfl ?_; rintro _ _ ⟨⟨bb, rfl, hbb⟩, rfl⟩; cases bb <;> (refine ⟨.inl rfl, rfl, ?_⟩; simp only [bk, bk2, bk1, bkS, bkO, bw, aH, go_sem, simprocAttr]))
 | (refine ab ?_ ?_ <;> intro hb <;> (try simp only [bls] at hb) <;> (try simp only [hb]))
 | refine gRe [] [.tmp 4] rfl rfl ?_) <;> (try simp only [go_sem, simprocAttr]))
 | (refine hK _ _ ?_; clear hK K; simp only [go_sem, simprocAttr])
 | refine gCd ?_ | refine brT ?_ | refine brF ?_
 | (refine brS ?_ ?_ <;> intro hc <;> (try simp only [bls] at hc) <;> (try simp only [hc, bls]))
 | intro _ | refine And.intro ?_ ?_)
 all_goals try exact zsd
 clear hsh hli htx hl
 refine ae.prune [2, 4, 5, 6, 9, 41, 42, 43] ?_; simp only [go_sem, simprocAttr]
 refine ae.al (α := Nat × Nat) (fun i => ([(2, .ref true [.sl true false (cz cs), .sl true false (Rad.defs ds), .sl true false (bm rs)]), (4, .bool false), (5, .bool true), (6, .str y), (9, .int .i64 i.2), (41, .sl true false (fY S)), (42, .int .i64 S.length), (43, .int .i64 i.1)], [])) (fun i => i.1 ≤ S.length ∧ Ordered ⟨cs, ds, rs⟩ y i.2 (S.drop i.1)) (fun i => S.length - i.1) (0, 0) ⟨Nat.zero_le _, hord⟩ rfl ?_
 clear hord
 rintro ⟨i, at'⟩ ⟨hi, ho⟩ ih
 simp only at hi ho ih ⊢
 by_cases hle : i < S.length
 ·have e4 : (i : Int) < S.length := by omega
  have e5 : (0 : Int) ≤ i := by omega
  have e6 : (i : Int) + 1 = ((i + 1 : Nat) : Int) := by omega
  have hx : S[i]? = some S[i] := List.getElem?_eq_getElem hle
  rw [List.drop_eq_getElem_cons hle] at ho
  generalize S[i] = t at hx ho
  obtain ⟨tr, ta, tb⟩ := t
  obtain ⟨a, b, rfl, rfl, o1, o2, o3, o4, hrest⟩ := ho
  simp only at o4
  have k1 : ¬ (a : Int) < at' := by omega
  have k2 : ¬ (b : Int) ≤ a := by omega
  have k3 : ¬ (y.size : Int) < b := by omega
  have k4 : (a : Int) + 1 = ((a + 1 : Nat) : Int) := by omega
  rcases o4 with ⟨rfl, rfl⟩ | ⟨m, r, rfl, ht⟩
  ·have k5 : ¬ (rs.length : Int) ≤ -1 := by omega
   repeat' (first
 | refine gCt rfl ?_
 | ((first
 | ((first | refine gR fp3 ?_); intro K hK)
 | (refine ab ?_ ?_ <;> intro hb <;> (try simp only [bls] at hb) <;> (try simp only [hb]))
 | refine gRe [] [.tmp 4] rfl rfl ?_) <;> (try simp only [go_sem, simprocAttr, e4, e5, e6, hx, k1, k2, k3, k4, k5, Option.some.injEq, forall_eq']))
 | (refine hK _ _ ?_; clear hK K; simp only [go_sem, simprocAttr])
 | refine gCd ?_ | refine brT ?_ | refine brF ?_
 | (refine brS ?_ ?_ <;> intro hc <;> (try simp only [bls] at hc) <;> (try simp only [hc, bls]))
 | intro _ | refine And.intro ?_ ?_)
   all_goals try exact zsd
   refine ae.bC [] ?_
   simp only [aq, ax, go_sem, simprocAttr]
   refine ae.prune [2, 4, 5, 6, 9, 41, 42, 43] ?_; simp only [go_sem, simprocAttr]
   exact (ih (i + 1, a + 1) ⟨by simp only; omega, hrest⟩ (by simp only; omega)).cast rfl rfl
  ·have hm := (List.getElem?_eq_some_iff.1 ht.rule).1
   simp only at hm
   have hxr := ht.rule
   have hkd := ht.kind
   have hhd := ht.head
   have hI := hIs o2 o3 ht
   have hC := hTr m hm
   clear ht hIs hTr
   simp only at hxr
   obtain ⟨rc, rf, rl, rk, rt, rp, rn⟩ := r
   simp only at hkd hhd
   have k5 : ¬ (m : Int) < -1 := by omega
   have k6 : ¬ (rs.length : Int) ≤ m := by omega
   have k7 : ¬ (m : Int) = -1 := by omega
   have k8 : ¬ (m : Int) < 0 := by omega
   have k9 : (m : Int) < rs.length := by omega
   have k10 : (0 : Int) ≤ m := by omega
   have k11 : a ≤ b := by omega
   have k12 : (0 : Int) ≤ a := by omega
   have k13 : (0 : Int) ≤ b := by omega
   generalize (bS ⟨cs, ds, rs⟩ (m : Int)).1 = X at hI hC
   cases rl
   ·
    repeat' (first
 | refine gCt rfl ?_
 | ((first
 | ((first | refine gR fp3 ?_); intro K hK)
 | refine cAl (hC) rfl rfl rfl ?_
 | refine cAl (hI) rfl rfl rfl ?_
 | (refine ab ?_ ?_ <;> intro hb <;> (try simp only [bls] at hb) <;> (try simp only [hb]))
 | refine gRe [] [.tmp 4] rfl rfl ?_) <;> (try simp only [go_sem, simprocAttr, e4, e5, e6, hx, k1, k2, k3, k4, k5, k6, k7, k8, k9, k10, k11, k12, k13, hxr, hkd, o3, Option.some.injEq, forall_eq']))
 | (refine hK _ _ ?_; clear hK K; simp only [go_sem, simprocAttr])
 | refine gCd ?_ | refine brT ?_ | refine brF ?_
 | (refine brS ?_ ?_ <;> intro hc <;> (try simp only [bls] at hc) <;> (try simp only [hc, bls]))
 | intro _ | refine And.intro ?_ ?_)
    all_goals try exact zsd
    refine ae.bC [] ?_
    simp only [aq, ax, go_sem, simprocAttr]
    refine ae.prune [2, 4, 5, 6, 9, 41, 42, 43] ?_; simp only [go_sem, simprocAttr]
    exact (ih (i + 1, b) ⟨by simp only; omega, hrest⟩ (by simp only; omega)).cast rfl rfl
   ·rcases Nat.eq_zero_or_pos a with h0 | h0
    ·have c1 : ¬ (0 : Int) < a := by omega
     repeat' (first
 | refine gCt rfl ?_
 | ((first
 | ((first | refine gR fp3 ?_); intro K hK)
 | refine cAl (hC) rfl rfl rfl ?_
 | refine cAl (hI) rfl rfl rfl ?_
 | (refine ab ?_ ?_ <;> intro hb <;> (try simp only [bls] at hb) <;> (try simp only [hb]))
 | refine gRe [] [.tmp 4] rfl rfl ?_) <;> (try simp only [go_sem, simprocAttr, e4, e5, e6, hx, k1, k2, k3, k4, k5, k6, k7, k8, k9, k10, k11, k12, k13, hxr, hkd, o3, c1, Option.some.injEq, forall_eq']))
 | (refine hK _ _ ?_; clear hK K; simp only [go_sem, simprocAttr])
 | refine gCd ?_ | refine brT ?_ | refine brF ?_
 | (refine brS ?_ ?_ <;> intro hc <;> (try simp only [bls] at hc) <;> (try simp only [hc, bls]))
 | intro _ | refine And.intro ?_ ?_)
     all_goals try exact zsd
     refine ae.bC [] ?_
     simp only [aq, ax, go_sem, simprocAttr]
     refine ae.prune [2, 4, 5, 6, 9, 41, 42, 43] ?_; simp only [go_sem, simprocAttr]
     exact (ih (i + 1, b) ⟨by simp only; omega, hrest⟩ (by simp only; omega)).cast rfl rfl
    ·have c0 := (hhd rfl).resolve_left (by omega)
     have c1 : (0 : Int) < a := by omega
     have c2 : (a : Int) - 1 = ((a - 1 : Nat) : Int) := by omega
     have c3 : ((a - 1 : Nat) : Int) < y.size := by omega
     have c4 : (0 : Int) ≤ ((a - 1 : Nat) : Int) := by omega
     have c5 : ((cd y (a - 1) : Nat) : Int) = 10 := by omega
     repeat' (first
 | refine gCt rfl ?_
 | ((first
 | ((first | refine gR fp3 ?_); intro K hK)
 | refine cAl (hC) rfl rfl rfl ?_
 | refine cAl (hI) rfl rfl rfl ?_
 | (refine ab ?_ ?_ <;> intro hb <;> (try simp only [bls] at hb) <;> (try simp only [hb]))
 | refine gRe [] [.tmp 4] rfl rfl ?_) <;> (try simp only [go_sem, simprocAttr, e4, e5, e6, hx, k1, k2, k3, k4, k5, k6, k7, k8, k9, k10, k11, k12, k13, hxr, hkd, o3, c1, c2, c3, c4, c5, eX, Option.some.injEq, forall_eq']))
 | (refine hK _ _ ?_; clear hK K; simp only [go_sem, simprocAttr])
 | refine gCd ?_ | refine brT ?_ | refine brF ?_
 | (refine brS ?_ ?_ <;> intro hc <;> (try simp only [bls] at hc) <;> (try simp only [hc, bls]))
 | intro _ | refine And.intro ?_ ?_)
     all_goals try exact zsd
     refine ae.bC [] ?_
     simp only [aq, ax, go_sem, simprocAttr]
     refine ae.prune [2, 4, 5, 6, 9, 41, 42, 43] ?_; simp only [go_sem, simprocAttr]
     exact (ih (i + 1, b) ⟨by simp only; omega, hrest⟩ (by simp only; omega)).cast rfl rfl
 ·have e4 : ¬ (i : Int) < S.length := by omega
  clear ih hIs hTr
  repeat' (first
 | refine gCt rfl ?_
 | ((first
 | ((first | refine gR fp3 ?_); intro K hK)
 | (refine ab ?_ ?_ <;> intro hb <;> (try simp only [bls] at hb) <;> (try simp only [hb]))
 | refine gRe [] [.tmp 4] rfl rfl ?_) <;> (try simp only [go_sem, simprocAttr, e4]))
 | (refine hK _ _ ?_; clear hK K; simp only [go_sem, simprocAttr])
 | refine gCd ?_ | refine brT ?_ | refine brF ?_
 | (refine brS ?_ ?_ <;> intro hc <;> (try simp only [bls] at hc) <;> (try simp only [hc, bls]))
 | intro _ | refine And.intro ?_ ?_)
  all_goals try exact zsd
end Go.Rad
namespace Go.Rad
open Go Go.Proofs
theorem Es : mQ LL 48 := ⟨5, 46, 39, 3, 9, 44, rfl, rfl, rfl, rfl, rfl, rfl, rfl⟩
theorem defT : yO LL 93 := ⟨9, 36, 48, rfl, rfl, rfl, Es⟩
theorem ruT' : Hf LL 41 := ⟨39, 4, 9, 3, 36, 48, rfl, rfl, rfl, rfl, rfl, rfl, Es⟩
theorem flT : FlTy LL 26 := ⟨22, 9, 23, 93, 24, 41, rfl, rfl, rfl, rfl, defT, rfl, ruT'⟩
theorem own6 : ownKnob Tryz.prog.godebug = none := by kernel_rfl
theorem zN : laidOutB Tryz.prog = true := by kernel_rfl
theorem gTab : Tryz.prog.globalNamed "math/bits.deBruijn64tab" = some 0 := by kernel_rfl
theorem tTab : (Tryz.prog.globals[0]?).map (·.type) = some 199 := by kernel_rfl
theorem cT8 : Tryz.prog.cellsOf 5 = 1 := by kernel_rfl
theorem cTab : Tryz.prog.cellsOf 199 = 64 := by kernel_rfl
theorem sh : ∀ x ∈ bI, fits .u8 x := by
 have m1 : IntKind.u8.min = 0 := by kernel_rfl
 have m2 : IntKind.u8.max = 255 := by kernel_rfl
 have : ∀ x ∈ bI, 0 ≤ x ∧ x ≤ 255 := by decide
 intro x hx
 unfold fits
 rw [m1, m2]; exact this x hx
theorem xp {W : World} (h : Lib.TabIs Tryz.prog W "math/bits.deBruijn64tab" .u8 bI) : ql W := by
 intro g l hg
 unfold nI at hg
 split at hg
 ·rename_i e
  subst e
  cases hg
  unfold Lib.TabIs World.var? at h
  rw [gTab] at h
  simp only [Option.bind_some] at h
  split at h
  ·rename_i cs e fr hh
   obtain rfl := Option.some.inj h
   refine .ref (.inl trivial) (e := e) (fr := fr) (c := (bI.map fun z => Value.int .u8 z).toArray) hh (by simp [fP]) (fun j x hx => ?_) (fun j x hx => ?_)
   ·simp only [fP, List.getElem?_map] at hx
    obtain ⟨y, _, rfl⟩ := Option.map_eq_some_iff.1 hx
    rfl
   ·simp only [fP, List.getElem?_map] at hx
    obtain ⟨y, hy, rfl⟩ := Option.map_eq_some_iff.1 hx
    have e2 : ((bI.map fun z => Value.int .u8 z).toArray).getD (0 + j) undef = .int .u8 y := by
     simp [Array.getD_eq_getD_getElem?, hy]
    rw [e2]
    exact .int (sh y (List.mem_of_getElem? hy))
  ·cases h
 ·cases hg
end Go.Rad
namespace Go.Proofs.YtmbhpolhiblhoaaGreatDoor
open Go Go.Rad
theorem Cs {W : World} (h : laidMetH Tryz.prog [("math/bits.deBruijn64tab", Rows.laid_math_bits_deBruijn64tab)] W) : ql W := by
 rw [MakeChecks.laidMetH_plain _ _ _ (by kernel_rfl)] at h
 exact xp (Lib.tabIs_of_head (zs := bI) (rest := []) gTab tTab Tryz.underlying199 Tryz.underlying5 cT8 cTab h)
theorem zh (os : Os) (args : Array Value) : laidMetH Tryz.prog [("math/bits.deBruijn64tab", Rows.laid_math_bits_deBruijn64tab)] ((World.doorLaid Tryz.prog 14 os).forCall (fun _ _ => 0) ⟨#[], args, []⟩).memory :=
 laidMetH_of_parts3 (fuel := 8) (laidMet_of_run' 8 (by kernel_rfl) (by kernel_rfl)) (by kernel_rfl) (by kernel_rfl)
end Go.Proofs.YtmbhpolhiblhoaaGreatDoor
