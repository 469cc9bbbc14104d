/- A call on known things, reckoned: the contract. -/
import Derived.Test.YtejdlelhlpnabaaDoorKRRun
import Derived.Test.YtejdlelhlpnabaaDoorKRNode
set_option linter.all false
namespace Go.Rad
open Go
variable {P : Program} {L : Lay}
theorem quiet_ok : Quiet P := fun f args v sto h1 h2 h3 h4 => ACall.alone (ACall.none h4) (map_self fun x hx => tr_flat (List.all_eq_true.1 h1 x hx)) (bk_flat h2) h3
/-- Rows that a result holds are given away. -/
def finCells : AVal → List AVal
  | .tup vs => vs
  | v => [v]
def xFin : Nat → AVal → Sto → Option AVal
  | 0, v, _ => some v
  | k + 1, v, s =>
    match firstOsl (finCells v) with
    | none => some v
    | some id =>
      match sget s id with
      | some (g, .row _ l) => req (okFs id g l.length v && okFS id g l.length (sdel s id)) (xFin k (rf id g l v) (rfS id g l (sdel s id)))
      | _ => none
theorem fin_post {E : Gh} {R : AVal → Prop} {e : Ending} {w' : World} {r : Nat → Nat} : ∀ (k : Nat) {v v' : AVal} {s : Sto}, xFin k v s = some v' → R (mg r v') → Post E (fun v1 s1 => v1 = mg r v ∧ s1 = mgS r s) e w' → Post E (fun v1 _ => R v1) e w'
  | 0, v, v', s, h, hR, hp => by
    simp only [xFin, Option.some.injEq] at h; subst h
    exact hp.mono (.refl E) fun _ _ hx => by rw [hx.1]; exact hR
  | k + 1, v, v', s, h, hR, ⟨G', cr, r1, s1, h1, h2, h3, h4, h5, h6, h7⟩ => by
    simp only [xFin] at h
    split at h
    · cases h; exact ⟨G', cr, r1, s1, h1, h2, h3, h4, h5, by rw [h6]; exact hR⟩
    · split at h
      · rename_i g esz l hg
        simp only [req_iff, Bool.and_eq_true] at h
        obtain ⟨⟨hk1, hk2⟩, h⟩ := h
        subst h6 h7
        obtain ⟨G2, q1, q2, q3, q4⟩ := all_freeze (g := r g) (esz := esz) (l := l) h3 h4 (by rw [sget_mgS, hg]; rfl)
        refine fin_post k h hR ⟨G2, cr, _, _, h1, h2.trans q1, q2, q3, q4 _ _ h5, rf_mg hk1, ?_⟩
        rw [← sdel_mgS, ← rfS_mg _ hk2]
      · cases h
def rowIds : Sto → List Nat
  | [] => []
  | (i, _, .row _ _) :: s => i :: rowIds s
  | _ :: s => rowIds s
theorem sfilt_mg {r : Nat → Nat} {keep : List Nat} : ∀ s : Sto, mgS r (sfilt keep s) = sfilt keep (mgS r s)
  | [] => rfl
  | (i, g, o) :: s => by
    have ih := sfilt_mg (r := r) (keep := keep) s
    simp only [sf_cons, mgS]
    split
    · simp only [mgS, ih]
    · exact ih
/-- A closed call that is reckoned, and tells a thing that leads nowhere. -/
def ran (x : Option (AVal × Sto × Nat)) : Option AVal := x.bind fun x => (xFin 4 x.1 (sfilt (rowIds x.2.1) x.2.1)).bind fun v => req (flat v) (some v)
theorem run_c (hL : LOk P L) (hm : P.follows .mixedOrders = true) (hn : (P.funcs.all fun fn => !(fn.name == "runtime.NumGoroutine")) = true) (tab : Nat → Tab) {kn : Known1} (hkn : KnOk P kn) (fs : List Nat) (hfs : fs.all (fnOk P L tab) = true) (fuel k : Nat) {f : Nat} {args : List AVal} {v : AVal} (ha : args.all flat = true) (h : ran (xCall P L tab kn fuel fs k false f args [] 1000) = some v) :
    ACall P f args [] fun r s => r = v ∧ s = [] := by
  simp only [ran, Option.bind_eq_some_iff, req_iff, Option.some.injEq] at h
  obtain ⟨⟨u, s, n⟩, h1, u', h2, h3, rfl⟩ := h
  have h4 := (xCall_ok hL hm hn quiet_ok hkn hfs k false f args [] 1000 _ _ _ h1).2.2 id
  rw [map_self fun x hx => mg_id (flat_bd (List.all_eq_true.1 ha x hx))] at h4
  refine ACall.none ⟨h4.able, fun G w cargs a b c => (h4.calls G w cargs a b c).mono fun e w' p => ?_⟩
  obtain ⟨G', cr, r1, s1, x1, x2, x3, x4, x5, r', _, rfl, rfl⟩ := p
  exact fin_post (R := fun r => r = u') 4 h2 (mg_id (flat_bd h3)) ⟨G', cr, _, _, x1, x2, x3, sto_filt (rowIds s) x4, x5, rfl, (sfilt_mg s).symm⟩
end Go.Rad
