/- The use of a contract: over a part of the store, under its own names, with some own things lent for reading. -/
import Derived.Test.YtejdlelhlpnabaaDoorKRLogic
set_option linter.all false
namespace Go.Rad
open Go

abbrev Ids := List (Nat × Nat)

def idOf : Ids → Nat → Option Nat
  | [], _ => none
  | (a, b) :: r, j => if a = j then some b else idOf r j
def idTo : Ids → Nat → Option Nat
  | [], _ => none
  | (a, b) :: r, i => if b = i then some a else idTo r i
def okIds : Ids → Bool
  | [] => true
  | (a, b) :: r => (idOf r a).isNone && (idTo r b).isNone && okIds r
def idBound : Ids → Nat
  | [] => 0
  | (a, _) :: r => max (a + 1) (idBound r)

theorem idOf_to : ∀ {σ : Ids}, okIds σ = true → ∀ {j i : Nat}, idOf σ j = some i ↔ idTo σ i = some j
  | [], _, j, i => by simp [idOf, idTo]
  | (a, b) :: r, h, j, i => by
    simp only [okIds, Bool.and_eq_true, Option.isNone_iff_eq_none] at h
    obtain ⟨⟨h1, h2⟩, h3⟩ := h
    have ih := @idOf_to r h3
    simp only [idOf, idTo]
    by_cases ha : a = j
    · subst ha
      rw [if_pos rfl]
      by_cases hb : b = i
      · subst hb; simp
      · rw [if_neg hb]
        constructor
        · intro h; exact absurd (Option.some.inj h) hb
        · intro h
          have := (ih (j := a) (i := i)).2 h
          rw [h1] at this; cases this
    · rw [if_neg ha]
      by_cases hb : b = i
      · subst hb
        rw [if_pos rfl]
        constructor
        · intro h
          have := (ih (j := j) (i := b)).1 h
          rw [h2] at this; cases this
        · intro h; exact absurd (Option.some.inj h) ha
      · rw [if_neg hb]; exact ih

theorem idBound_lt : ∀ {σ : Ids} {j i : Nat}, idOf σ j = some i → j < idBound σ
  | [], _, _, h => by simp [idOf] at h
  | (a, b) :: r, j, i, h => by
    simp only [idOf] at h
    simp only [idBound]
    split at h
    · rename_i e; subst e; omega
    · have := idBound_lt h; omega

/-- A value as the called function sees it. -/
def tr1 (σ : Ids) (ln : List Nat) (sto : Sto) : AVal → AVal
  | .osl id g off len =>
    match idTo σ id with
    | some j => .osl j g off len
    | none =>
      if ln.contains id then
        match sget sto id with
        | some (g', .row _ l) => if g' = g ∧ off + len ≤ l.length then .sl false false ((l.drop off).take len) else .undef
        | _ => .undef
      else .undef
  | .bx id g off =>
    match idTo σ id with
    | some j => .bx j g off
    | none =>
      if ln.contains id then
        match sget sto id with
        | some (g', .box cs) => if g' = g ∧ off ≤ cs.length ∧ cs.all AVal.isFz = true then .ref false (cs.drop off) else .undef
        | _ => .undef
      else .undef
  | .loc id g i off =>
    match idTo σ id with
    | some j => .loc j g i off
    | none => .undef
  | .map id g =>
    match idTo σ id with
    | some j => .map j g
    | none => .undef
  | .fn f [] => .fn f []
  | .fn _ _ => .undef
  | .agg _ => .undef
  | .tup _ => .undef
  | .opt _ _ => .undef
  | v => v
def tr (σ : Ids) (ln : List Nat) (sto : Sto) : AVal → AVal
  | .agg cs => if (cs.map (tr1 σ ln sto)).all AVal.isCell = true then .agg (cs.map (tr1 σ ln sto)) else .undef
  | .tup cs => .tup (cs.map (tr1 σ ln sto))
  | .fn f cs => .fn f (cs.map (tr1 σ ln sto))
  | v => tr1 σ ln sto v
def trO (σ : Ids) (ln : List Nat) (sto : Sto) : AObj → AObj
  | .box cs => .box (cs.map (tr1 σ ln sto))
  | o => o
def mkSto (σ : Ids) (ln : List Nat) (sto : Sto) : Ids → Sto
  | [] => []
  | (j, i) :: r =>
    match sget sto i with
    | some (g, o) => (j, g, trO σ ln sto o) :: mkSto σ ln sto r
    | none => mkSto σ ln sto r

/-- A value as the caller sees it. -/
def bk1 (σ : Ids) : AVal → AVal
  | .osl j g off len => match idOf σ j with | some i => .osl i g off len | none => .undef
  | .bx j g off => match idOf σ j with | some i => .bx i g off | none => .undef
  | .loc j g k off => match idOf σ j with | some i => .loc i g k off | none => .undef
  | .map j g => match idOf σ j with | some i => .map i g | none => .undef
  | .fn f [] => .fn f []
  | .fn _ _ => .undef
  | .agg _ => .undef
  | .tup _ => .undef
  | .opt _ _ => .undef
  | v => v
def bk (σ : Ids) : AVal → AVal
  | .agg cs => if (cs.map (bk1 σ)).all AVal.isCell = true then .agg (cs.map (bk1 σ)) else .undef
  | .tup cs => .tup (cs.map (bk1 σ))
  | .fn f cs => .fn f (cs.map (bk1 σ))
  | v => bk1 σ v
def bkO (σ : Ids) : AObj → AObj
  | .box cs => .box (cs.map (bk1 σ))
  | o => o
def bkS (σ : Ids) : Sto → Sto → Sto
  | [], base => base
  | (j, g, o) :: s, base =>
    match idOf σ j with
    | some i => sput (bkS σ s base) i (g, bkO σ o)
    | none => bkS σ s base
def delAll : Ids → Sto → Sto
  | [], s => s
  | (_, i) :: r, s => sdel (delAll r s) i

def cellsOk : AObj → Bool
  | .box cs => cs.all AVal.isCell
  | _ => true
def stoCells : Sto → Bool
  | [] => true
  | (_, _, o) :: s => cellsOk o && stoCells s

mutual
/-- Nothing lent is within. -/
def clean : AVal → Bool
  | .ref q cs => q && cleanL cs
  | .sl q _ l => q && cleanLL l
  | .agg cs => cleanL cs
  | .tup vs => cleanL vs
  | .fn _ cs => cleanL cs
  | .opt _ v => clean v
  | _ => true
def cleanL : List AVal → Bool
  | [] => true
  | x :: xs => clean x && cleanL xs
def cleanLL : List (List AVal) → Bool
  | [] => true
  | x :: xs => cleanL x && cleanLL xs
end
def cleanM : List (ByteArray × AVal) → Bool
  | [] => true
  | x :: xs => clean x.2 && cleanM xs
def cleanO : AObj → Bool
  | .row _ l => cleanLL l
  | .box cs => cleanL cs
  | .mp es => cleanM es
def cleanS : Sto → Bool
  | [] => true
  | (_, _, o) :: s => cleanO o && cleanS s

theorem cleanL_get : ∀ {l : List AVal}, cleanL l = true → ∀ {j : Nat} {x : AVal}, l[j]? = some x → clean x = true
  | [], _, j, x, h => by simp at h
  | y :: l, h, j, x, hx => by
    simp only [cleanL, Bool.and_eq_true] at h
    cases j with
    | zero => simp at hx; subst hx; exact h.1
    | succ j => exact cleanL_get h.2 (by simpa using hx)
theorem cleanLL_get : ∀ {l : List (List AVal)}, cleanLL l = true → ∀ {i : Nat} {x : List AVal}, l[i]? = some x → cleanL x = true
  | [], _, j, x, h => by simp at h
  | y :: l, h, j, x, hx => by
    simp only [cleanLL, Bool.and_eq_true] at h
    cases j with
    | zero => simp at hx; subst hx; exact h.1
    | succ j => exact cleanLL_get h.2 (by simpa using hx)
theorem cleanM_get : ∀ {l : List (ByteArray × AVal)}, cleanM l = true → ∀ {i : Nat} {x : ByteArray × AVal}, l[i]? = some x → clean x.2 = true
  | [], _, j, x, h => by simp at h
  | y :: l, h, j, x, hx => by
    simp only [cleanM, Bool.and_eq_true] at h
    cases j with
    | zero => simp at hx; subst hx; exact h.1
    | succ j => exact cleanM_get h.2 (by simpa using hx)
theorem cleanS_get : ∀ {s : Sto}, cleanS s = true → ∀ {i g : Nat} {o : AObj}, sget s i = some (g, o) → cleanO o = true
  | [], _, _, _, _, h => by simp [sget] at h
  | (k, h', o') :: s, h, i, g, o, hx => by
    simp only [cleanS, Bool.and_eq_true] at h
    simp only [sget] at hx
    split at hx
    · simp only [Option.some.injEq, Prod.mk.injEq] at hx; rw [← hx.2]; exact h.1
    · exact cleanS_get h.2 hx
theorem stoCells_get : ∀ {s : Sto}, stoCells s = true → ∀ {i g : Nat} {o : AObj}, sget s i = some (g, o) → cellsOk o = true
  | [], _, _, _, _, h => by simp [sget] at h
  | (k, h', o') :: s, h, i, g, o, hx => by
    simp only [stoCells, Bool.and_eq_true] at h
    simp only [sget] at hx
    split at hx
    · simp only [Option.some.injEq, Prod.mk.injEq] at hx; rw [← hx.2]; exact h.1
    · exact stoCells_get h.2 hx

/-- What is frozen stays so, where what it leans on is known there too. -/
theorem Rep.fz {G G' : Gh} {c : Bool} (h : ∀ (q : Bool) (b : Nat) (o : Obj), (c = true → q = true) → G.ok q b → G.F b = some o → G'.ok q b ∧ G'.F b = some o) {o : Bool} {x : AVal} {v : Value} (r : Rep G o x v) :
    o = false → (c = true → clean x = true) → Rep G' false x v := by
  induction r with
  | bool => intro _ _; exact .bool
  | int a => intro _ _; exact .int a
  | str a => intro _ _; exact .str a
  | nil => intro _ _; exact .nil
  | @ref o q cs b off cc e fr a1 a2 a3 a4 a5 ih =>
    intro _ hc
    have hq : c = true → q = true ∧ cleanL cs = true := fun hh => by have := hc hh; simpa [clean] using this
    obtain ⟨k1, k2⟩ := h q b _ (fun hh => (hq hh).1) a1 a2
    exact .ref k1 k2 a3 a4 fun j y hy => ih j y hy rfl fun hh => cleanL_get (hq hh).2 hy
  | slnil a => intro _ _; exact .slnil a
  | @sl o q full l cap b off cc e fr esz a1 a2 a3 a4 a5 a6 a7 a8 a9 ih =>
    intro _ hc
    have hq : c = true → q = true ∧ cleanLL l = true := fun hh => by have := hc hh; simpa [clean] using this
    obtain ⟨k1, k2⟩ := h q b _ (fun hh => (hq hh).1) a4 a5
    exact .sl a1 a2 a3 k1 k2 a6 a7 a8 fun i j y z hy hz => ih i j y z hy hz rfl fun hh => cleanL_get (cleanLL_get (hq hh).2 hy) hz
  | fn a1 _ ih => intro ho hc; subst ho; exact .fn a1 fun j y hy => ih j y hy rfl fun hh => cleanL_get (by have := hc hh; simpa [clean] using this) hy
  | nilfn => intro _ _; exact .nilfn
  | nilmap => intro _ _; exact .nilmap
  | agg a1 a2 _ ih => intro ho hc; subst ho; exact .agg a1 a2 fun j y hy => ih j y hy rfl fun hh => cleanL_get (by have := hc hh; simpa [clean] using this) hy
  | tup a1 _ ih => intro ho hc; subst ho; exact .tup a1 fun j y hy => ih j y hy rfl fun hh => cleanL_get (by have := hc hh; simpa [clean] using this) hy
  | loc => intro ho; cases ho
  | bx => intro ho; cases ho
  | osl => intro ho; cases ho
  | map => intro ho; cases ho
  | opt _ ih => intro ho hc; subst ho; exact .opt fun hh => ih hh rfl fun h2 => by have := hc h2; simpa [clean] using this
  | undef => intro _ _; exact .undef

theorem sget_delAll : ∀ (σ : Ids) (s : Sto) (i : Nat), sget (delAll σ s) i = if (idTo σ i).isSome then none else sget s i
  | [], s, i => by simp [delAll, idTo]
  | (a, b) :: r, s, i => by
    simp only [delAll, sget_sdel, idTo, sget_delAll r]
    split <;> simp_all

theorem sget_mkSto {σ : Ids} {ln : List Nat} {sto : Sto} : ∀ {r : Ids}, okIds r = true → ∀ (j : Nat), sget (mkSto σ ln sto r) j = (idOf r j).bind fun i => (sget sto i).map fun x => (x.1, trO σ ln sto x.2)
  | [], _, j => by simp [mkSto, idOf, sget]
  | (a, b) :: r, h, j => by
    have h' : idOf r a = none ∧ okIds r = true := by
      simp only [okIds, Bool.and_eq_true, Option.isNone_iff_eq_none] at h
      exact ⟨h.1.1, h.2⟩
    have ih := sget_mkSto (σ := σ) (ln := ln) (sto := sto) h'.2 j
    simp only [mkSto, idOf]
    cases hs : sget sto b with
    | none =>
      simp only
      rw [ih]
      by_cases e : a = j
      · subst e; simp [hs, h'.1]
      · simp [e]
    | some x =>
      obtain ⟨g, o⟩ := x
      simp only [sget]
      by_cases e : a = j
      · subst e; simp [hs]
      · simp [e, ih]

theorem sget_bkS {σ : Ids} (hσ : okIds σ = true) (base : Sto) (i : Nat) : ∀ s : Sto, sget (bkS σ s base) i = match idTo σ i with
    | some j => (match sget s j with | some x => some (x.1, bkO σ x.2) | none => sget base i)
    | none => sget base i
  | [] => by simp only [bkS, sget]; cases idTo σ i <;> rfl
  | (k, g, o) :: s => by
    have ih := sget_bkS hσ base i s
    simp only [bkS, sget]
    cases hk : idOf σ k with
    | none =>
      simp only [ih]
      cases hi : idTo σ i with
      | none => rfl
      | some j =>
        have hj := (idOf_to hσ).2 hi
        have : k ≠ j := by rintro rfl; rw [hk] at hj; cases hj
        simp [this]
    | some i' =>
      simp only [sget_sput, ih]
      by_cases e : i' = i
      · subst e
        have := (idOf_to hσ).1 hk
        simp [this]
      · rw [if_neg e]
        cases hi : idTo σ i with
        | none => rfl
        | some j =>
          have hj := (idOf_to hσ).2 hi
          have : k ≠ j := by rintro rfl; rw [hk] at hj; exact e (Option.some.inj hj)
          simp [this]

open Classical in
/-- The ghost of a call: what isn't handed over lies still. -/
noncomputable def useG (G : Gh) (w : World) (σ : Ids) (ln : List Nat) (sto : Sto) : Gh where
  F b := match G.F b with
    | some o => some o
    | none => if ∃ i g o, sget sto i = some (g, o) ∧ idTo σ i = none ∧ blkOf G i g = some b then w.heap[b]? else none
  S b := G.S b ∧ G.F b ≠ none
  L b := (G.L b ∧ G.F b ≠ none) ∨ ∃ i g o, sget sto i = some (g, o) ∧ idTo σ i = none ∧ i ∈ ln ∧ blkOf G i g = some b
  M j g := match idOf σ j with
    | some i => G.M i g
    | none => if idBound σ ≤ j then G.M (j - idBound σ) g else none
  N := G.N
  W0 := G.W0

section
variable {G : Gh} {w : World} {σ : Ids} {ln : List Nat} {sto : Sto}

theorem useG_F {b : Nat} {o : Obj} (h : G.F b = some o) : (useG G w σ ln sto).F b = some o := by simp [useG, h]
theorem useG_fr {i g b : Nat} {o : AObj} (hw : WOk G w) (hs : StoOk G w sto) (h : sget sto i = some (g, o)) (hi : idTo σ i = none) (hb : blkOf G i g = some b) : (useG G w σ ln sto).F b = w.heap[b]? := by
  have := ((hs.obj i g o h).blk hw b hb).1
  simp only [useG, this]
  rw [if_pos ⟨i, g, o, h, hi, hb⟩]
theorem useG_M {j i g : Nat} (h : idOf σ j = some i) : (useG G w σ ln sto).M j g = G.M i g := by simp [useG, h]

theorem useG_ok (q : Bool) (b : Nat) (o : Obj) (h : G.ok q b) (hF : G.F b = some o) : (useG G w σ ln sto).ok q b ∧ (useG G w σ ln sto).F b = some o := by
  refine ⟨?_, useG_F hF⟩
  have hn : G.F b ≠ none := by rw [hF]; simp
  exact h.imp (fun a => ⟨a, hn⟩) fun ⟨a, c⟩ => ⟨a, .inl ⟨c, hn⟩⟩

theorem useG_wok (hw : WOk G w) (hs : StoOk G w sto) : WOk (useG G w σ ln sto) w := by
  refine ⟨hw.K, fun b o h => ?_, fun j g h b hM hb => ?_, fun j g hg => ?_, fun g l h => (((hw.T g l h).down rfl).fz (c := false) (fun q b o _ a d => useG_ok q b o a d) rfl (fun h => by cases h)).up⟩
  · simp only [useG] at h
    split at h
    · rename_i o' ho; rw [hw.F b o' ho]; exact h
    · split at h
      · exact h
      · cases h
  · simp only [useG] at hM
    split at hM
    · exact hw.M _ _ _ _ hM hb
    · split at hM
      · exact hw.M _ _ _ _ hM hb
      · cases hM
  · simp only [useG]
    split
    · exact hw.N _ _ hg
    · split
      · exact hw.N _ _ hg
      · rfl

theorem rep_tr1 (hw : WOk G w) (hs : StoOk G w sto) (hσ : okIds σ = true) {x : AVal} {v : Value} (r : Rep G true x v) : Rep (useG G w σ ln sto) true (tr1 σ ln sto x) v := by
  have hz : ∀ {x : AVal} {v : Value}, Rep G false x v → Rep (useG G w σ ln sto) false x v := fun r => r.fz (c := false) (fun q b o _ a c => useG_ok q b o a c) rfl (fun h => by cases h)
  cases r with
  | bool => exact .bool
  | int a => exact .int a
  | str a => exact .str a
  | nil => exact .nil
  | ref a1 a2 a3 a4 a5 => exact .ref (useG_ok _ _ _ a1 a2).1 (useG_ok _ _ _ a1 a2).2 a3 a4 fun j y hy => hz (a5 j y hy)
  | slnil a => exact .slnil a
  | sl a1 a2 a3 a4 a5 a6 a7 a8 a9 => exact .sl a1 a2 a3 (useG_ok _ _ _ a4 a5).1 (useG_ok _ _ _ a4 a5).2 a6 a7 a8 fun i j y z hy hz' => hz (a9 i j y z hy hz')
  | @fn _ f cap caps a1 a2 =>
    cases cap with
    | nil => exact .fn a1 fun j y hy => by simp at hy
    | cons => exact .undef
  | nilfn => exact .nilfn
  | nilmap => exact .nilmap
  | agg => exact .undef
  | tup => exact .undef
  | @loc id g i off b cap esz hM =>
    simp only [tr1]
    split
    · rename_i j hj
      exact .loc ((useG_M ((idOf_to hσ).2 hj)).trans hM)
    · exact .undef
  | @bx id g off b cap esz hM =>
    simp only [tr1]
    split
    · rename_i j hj
      exact .bx ((useG_M ((idOf_to hσ).2 hj)).trans hM)
    · rename_i hj
      split
      · rename_i hln
        split
        · rename_i g' cs hget
          split
          · rename_i hc
            obtain ⟨rfl, hoff, hall⟩ := hc
            obtain ⟨b', cap', esz', k1, k2, c, e, k3, k4, k5, k6⟩ := hs.obj id g' _ hget
            rw [hM] at k1
            simp only [Option.some.injEq, Hd.mk.injEq] at k1
            obtain ⟨rfl, _, _⟩ := k1
            have hb : blkOf G id g' = some b := by simp [blkOf, hM]
            refine .ref (c := c) (e := e) (fr := (0, 0)) (.inr ⟨rfl, .inr ⟨id, g', _, hget, hj, by simpa using hln, hb⟩⟩) ((useG_fr hw hs hget hj hb).trans k3) (by simp [k4]; omega) (fun j y hy => ?_) (fun j y hy => ?_)
            · rw [List.getElem?_drop] at hy; exact k5 _ y hy
            · rw [List.getElem?_drop] at hy
              exact hz ((k6 _ y hy).down (List.all_eq_true.1 hall y (List.mem_of_getElem? hy)))
          · exact .undef
        · exact .undef
      · exact .undef
  | @osl id g off len ob cap esz a hM a1 a2 a3 a4 a5 =>
    simp only [tr1]
    split
    · rename_i j hj
      exact .osl ((useG_M ((idOf_to hσ).2 hj)).trans hM) a1 a2 a3 a4 a5
    · rename_i hj
      split
      · rename_i hln
        split
        · rename_i g' esz' l hget
          split
          · rename_i hc
            obtain ⟨rfl, hle⟩ := hc
            obtain ⟨ob', cap', k1, k2, k3, k4, k5, k6, k7, k8⟩ := hs.obj id g' _ hget
            rw [hM] at k1
            simp only [Option.some.injEq, Hd.mk.injEq] at k1
            obtain ⟨rfl, rfl, rfl⟩ := k1
            rcases Nat.eq_zero_or_pos len with hz0 | hpos
            · subst hz0
              simp only [List.take_zero]; exact .slnil (fun h => by cases h)
            · cases ob with
              | none => have := k7 rfl; omega
              | some b =>
                obtain ⟨kF, kcap, c, e, kc, ksz, krep⟩ := k8 b rfl
                have ha := a4 b rfl (by omega)
                subst ha
                have hb : blkOf G id g' = some b := by simp [blkOf, hM]
                have hlen : ((l.drop off).take len).length = len := by simp; omega
                have hgetl : ∀ (i : Nat) (x : List AVal), ((l.drop off).take len)[i]? = some x → l[off + i]? = some x := by
                  intro i x hx
                  rw [List.getElem?_take] at hx
                  split at hx
                  · rwa [List.getElem?_drop] at hx
                  · cases hx
                have hR := Rep.sl (G := useG G w σ ln sto) (o := true) (q := false) (full := false) (l := (l.drop off).take len) (cap := cap - off) (b := b) (off := off * esz) (c := c) (e := e) (fr := (0, 0)) (esz := esz)
                  (by rw [hlen]; omega) (fun h => by cases h) (by rw [hlen]; exact big_max a2) (.inr ⟨rfl, .inr ⟨id, g', _, hget, hj, by simpa using hln, hb⟩⟩) ((useG_fr hw hs hget hj hb).trans kc)
                  (by rw [hlen, ksz, ← Nat.add_mul]; exact Nat.mul_le_mul_right _ a1)
                  (fun i x hx => k5 _ x (hgetl i x hx)) (fun i j x y hx hy => k6 _ j x y (hgetl i x hx) hy)
                  (fun i j x y hx hy => by
                    have := hz (krep _ j x y (hgetl i x hx) hy)
                    rw [Nat.add_mul] at this
                    exact this)
                rw [hlen] at hR
                exact hR
          · exact .undef
        · exact .undef
      · exact .undef
  | @map id g b cap esz hM =>
    simp only [tr1]
    split
    · rename_i j hj
      exact .map ((useG_M ((idOf_to hσ).2 hj)).trans hM)
    · exact .undef
  | opt => exact .undef
  | undef => exact .undef

theorem all_get {l : List AVal} (h : l.all AVal.isCell = true) {j : Nat} {x : AVal} (hx : l[j]? = some x) : x.isCell = true := List.all_eq_true.1 h x (List.mem_of_getElem? hx)

theorem rep_tr (hw : WOk G w) (hs : StoOk G w sto) (hσ : okIds σ = true) {x : AVal} {v : Value} (r : Rep G true x v) : Rep (useG G w σ ln sto) true (tr σ ln sto x) v := by
  unfold tr
  split
  · cases r with
    | agg a b c =>
      split
      · rename_i hall
        refine .agg (by simpa using a) (fun j y hy => all_get hall hy) fun j y hy => ?_
        rw [List.getElem?_map] at hy
        obtain ⟨x, hx, rfl⟩ := Option.map_eq_some_iff.1 hy
        exact rep_tr1 hw hs hσ (c j x hx)
      · exact .undef
  · cases r with
    | tup a c =>
      refine .tup (by simpa using a) fun j y hy => ?_
      rw [List.getElem?_map] at hy
      obtain ⟨x, hx, rfl⟩ := Option.map_eq_some_iff.1 hy
      exact rep_tr1 hw hs hσ (c j x hx)
  · cases r with
    | fn a c =>
      refine .fn (by simpa using a) fun j y hy => ?_
      rw [List.getElem?_map] at hy
      obtain ⟨x, hx, rfl⟩ := Option.map_eq_some_iff.1 hy
      exact rep_tr1 hw hs hσ (c j x hx)
  · exact rep_tr1 hw hs hσ r

theorem useG_apart (hw : WOk G w) (hs : StoOk G w sto) {i g b : Nat} {o : AObj} (hget : sget sto i = some (g, o)) (hi : idTo σ i ≠ none) (hb : blkOf G i g = some b) : (useG G w σ ln sto).F b = none := by
  have h1 := ((hs.obj i g o hget).blk hw b hb).1
  simp only [useG, h1]
  rw [if_neg]
  rintro ⟨i', g', o', h', hi', hb'⟩
  exact hs.apart i i' g g' o o' hget h' (by rintro rfl; exact hi hi') b hb hb'

theorem obj_tr (hw : WOk G w) (hs : StoOk G w sto) (hσ : okIds σ = true) {i j g : Nat} {o : AObj} (hget : sget sto i = some (g, o)) (hj : idOf σ j = some i) (hc : cellsOk (trO σ ln sto o) = true) :
    ObjOk (useG G w σ ln sto) w j g (trO σ ln sto o) := by
  have hz : ∀ {x : AVal} {v : Value}, Rep G false x v → Rep (useG G w σ ln sto) false x v := fun r => r.fz (c := false) (fun q b o _ a c => useG_ok q b o a c) rfl (fun h => by cases h)
  have hi : idTo σ i ≠ none := by rw [(idOf_to hσ).1 hj]; simp
  have hob := hs.obj i g o hget
  have hF := fun b => useG_apart (σ := σ) (ln := ln) (b := b) hw hs hget hi
  cases o with
  | row esz l =>
    obtain ⟨ob, cap, h1, h2, h3, h4, h5, h6, h7, h8⟩ := hob
    refine ⟨ob, cap, (useG_M hj).trans h1, h2, h3, h4, h5, h6, h7, fun b hob => ?_⟩
    obtain ⟨a1, a2, c, e, a3, a4, a5⟩ := h8 b hob
    exact ⟨hF b (by simp [blkOf, h1, hob]), a2, c, e, a3, a4, fun i j x y hx hy => hz (a5 i j x y hx hy)⟩
  | box cs =>
    obtain ⟨b, cap, esz, h1, _, c, e, h3, h4, h5, h6⟩ := hob
    refine ⟨b, cap, esz, (useG_M hj).trans h1, hF b (by simp [blkOf, h1]), c, e, h3, by simpa using h4, fun j y hy => all_get hc hy, fun j y hy => ?_⟩
    rw [List.getElem?_map] at hy
    obtain ⟨x, hx, rfl⟩ := Option.map_eq_some_iff.1 hy
    exact rep_tr1 hw hs hσ (h6 j x hx)
  | mp es =>
    obtain ⟨b, cap, esz, h1, _, me, cl, h3, h4, h4', h5⟩ := hob
    refine ⟨b, cap, esz, (useG_M hj).trans h1, hF b (by simp [blkOf, h1]), me, cl, h3, h4, h4', fun j x hx => ?_⟩
    obtain ⟨m, a1, a2, a3, a4⟩ := h5 j x hx
    exact ⟨m, a1, a2, a3, hz a4⟩

theorem blkOf_use {i j g : Nat} (hj : idOf σ j = some i) : blkOf (useG G w σ ln sto) j g = blkOf G i g := by simp [blkOf, useG_M hj]

theorem sto_tr (hw : WOk G w) (hs : StoOk G w sto) (hσ : okIds σ = true) (hc : stoCells (mkSto σ ln sto σ) = true) : StoOk (useG G w σ ln sto) w (mkSto σ ln sto σ) := by
  have key : ∀ j g o, sget (mkSto σ ln sto σ) j = some (g, o) → ∃ i o', idOf σ j = some i ∧ sget sto i = some (g, o') ∧ o = trO σ ln sto o' := by
    intro j g o h
    rw [sget_mkSto hσ] at h
    obtain ⟨i, hi, h⟩ := Option.bind_eq_some_iff.1 h
    obtain ⟨⟨g', o'⟩, ho, he⟩ := Option.map_eq_some_iff.1 h
    simp only [Prod.mk.injEq] at he
    obtain ⟨rfl, rfl⟩ := he
    exact ⟨i, o', hi, ho, rfl⟩
  refine ⟨fun j g o h => ?_, fun j j' g g' o o' h h' hne b hb => ?_⟩
  · have hcell := stoCells_get hc h
    obtain ⟨i, o', hi, ho, rfl⟩ := key j g o h
    exact obj_tr hw hs hσ ho hi hcell
  · obtain ⟨i, p, hi, ho, rfl⟩ := key j g o h
    obtain ⟨i', p', hi', ho', rfl⟩ := key j' g' o' h'
    rw [blkOf_use hi] at hb
    rw [blkOf_use hi']
    refine hs.apart i i' g g' p p' ho ho' ?_ b hb
    rintro rfl
    have h1 := (idOf_to hσ).1 hi
    have h2 := (idOf_to hσ).1 hi'
    rw [h1] at h2
    exact hne (Option.some.inj h2)
end

open Classical in
/-- The ghost behind the call. -/
noncomputable def backG (G : Gh) (σ : Ids) (sto : Sto) (H : Gh) : Gh where
  F b := if ∃ i g o, sget sto i = some (g, o) ∧ idTo σ i = none ∧ blkOf G i g = some b then none else H.F b
  S b := H.S b ∨ G.S b
  L := G.L
  M i g := match G.M i g with
    | some h => some h
    | none => match idTo σ i with
      | some j => H.M j g
      | none => none
  N := H.N
  W0 := G.W0

section
variable {G H : Gh} {w w' : World} {σ : Ids} {ln : List Nat} {sto : Sto}

theorem backG_M (hσ : okIds σ = true) (hx : Ext (useG G w σ ln sto) H) {j i g : Nat} (hj : idOf σ j = some i) {h : Hd} (hM : H.M j g = some h) : (backG G σ sto H).M i g = some h := by
  simp only [backG]
  cases hG : G.M i g with
  | some h' =>
    have := hx.M j g h' (by rw [useG_M hj]; exact hG)
    rw [hM] at this
    simpa using this.symm
  | none => simp only [(idOf_to hσ).1 hj, hM]

theorem backG_F (hw : WOk G w) (hs : StoOk G w sto) (hx : Ext (useG G w σ ln sto) H) {b : Nat} {o : Obj} (h : G.F b = some o) : (backG G σ sto H).F b = some o := by
  simp only [backG]
  rw [if_neg]
  · exact hx.F b o (useG_F h)
  · rintro ⟨i, g, o', hget, _, hb⟩
    have := ((hs.obj i g o' hget).blk hw b hb).1
    rw [h] at this; cases this

theorem backG_ext (hw : WOk G w) (hs : StoOk G w sto) (hx : Ext (useG G w σ ln sto) H) : Ext G (backG G σ sto H) where
  F b o h := backG_F hw hs hx h
  S b h := .inr h
  S' b h := by
    rcases h with h | h
    · rcases hx.S' b h with h | h
      · exact .inl h.1
      · right
        cases hF : G.F b with
        | none => rfl
        | some o => rw [useG_F hF] at h; cases h
    · exact .inl h
  L b := Iff.rfl
  M i g h hM := by simp [backG, hM]
  N := hx.N
  W0 := rfl

/-- No frozen thing of the call lies in what was kept back, but what was lent. -/
theorem backG_ok (hw : WOk G w) (hs : StoOk G w sto) (hx : Ext (useG G w σ ln sto) H) (c : Bool) (hc : c = false → ln = []) (q : Bool) (b : Nat) (o : Obj) (hq : c = true → q = true) (hk : H.ok q b) (hF : H.F b = some o) :
    (backG G σ sto H).ok q b ∧ (backG G σ sto H).F b = some o := by
  have hfr : ∀ i g o', sget sto i = some (g, o') → idTo σ i = none → blkOf G i g = some b → ¬ H.S b := by
    intro i g o' hget hi hb hS
    have hn := ((hs.obj i g o' hget).blk hw b hb).1
    rcases hx.S' b hS with h | h
    · exact h.2 hn
    · have := (useG_fr (σ := σ) (ln := ln) hw hs hget hi hb).symm.trans h
      have hlt := ((hs.obj i g o' hget).blk hw b hb).2
      rw [Array.getElem?_eq_getElem hlt] at this; cases this
  have hL : q = false → H.L b → G.L b ∧ G.F b ≠ none := by
    intro hq0 hl
    cases c with
    | true => rw [hq rfl] at hq0; cases hq0
    | false =>
      rcases (hx.L b).1 hl with h | ⟨i, g, o', _, _, hi, _⟩
      · exact h
      · rw [hc rfl] at hi; simp at hi
  have hnot : ¬ ∃ i g o, sget sto i = some (g, o) ∧ idTo σ i = none ∧ blkOf G i g = some b := by
    rintro ⟨i, g, o', hget, hi, hb⟩
    rcases hk with h | ⟨h0, h⟩
    · exact hfr i g o' hget hi hb h
    · exact (hL h0 h).2 ((hs.obj i g o' hget).blk hw b hb).1
  refine ⟨?_, by simp only [backG]; rw [if_neg hnot]; exact hF⟩
  rcases hk with h | ⟨h0, h⟩
  · exact .inl (.inl h)
  · exact .inr ⟨h0, (hL h0 h).1⟩

theorem backG_wok (hw : WOk G w) (hs : StoOk G w sto) (hx : Ext (useG G w σ ln sto) H) (hw' : WOk H w') : WOk (backG G σ sto H) w' := by
  refine ⟨by have := hw'.K; rw [hx.W0] at this; exact this, fun b o h => ?_, fun i g h b hM hb => ?_, fun i g hg => ?_, fun g l h => (hw.T g l h).mono (backG_ext hw hs hx).toMono⟩
  · simp only [backG] at h
    split at h
    · cases h
    · exact hw'.F b o h
  · simp only [backG] at hM
    split at hM
    · rename_i h' hG
      have hM' : h' = h := by simpa using hM
      subst hM'
      have h2 := hx.M (idBound σ + i) g h' (by
        simp only [useG]
        cases hj : idOf σ (idBound σ + i) with
        | some k => have := idBound_lt hj; omega
        | none => rw [if_pos (by omega)]; rw [Nat.add_sub_cancel_left]; exact hG)
      exact hw'.M _ _ _ _ h2 hb
    · split at hM
      · exact hw'.M _ _ _ _ hM hb
      · cases hM
  · have hN : H.N ≤ g := hg
    simp only [backG]
    have h1 : G.M i g = none := hw.N i g (Nat.le_trans hx.N hN)
    rw [h1]
    simp only
    split
    · exact hw'.N _ _ hN
    · rfl

theorem rep_bk1 (hσ : okIds σ = true) (hw : WOk G w) (hs : StoOk G w sto) (hx : Ext (useG G w σ ln sto) H) (c : Bool) (hc : c = false → ln = []) {x : AVal} {v : Value} (r : Rep H true x v) (hcl : c = true → clean x = true) :
    Rep (backG G σ sto H) true (bk1 σ x) v := by
  have hz : ∀ {x : AVal} {v : Value}, Rep H false x v → (c = true → clean x = true) → Rep (backG G σ sto H) false x v := fun r h => r.fz (c := c) (fun q b o hq a d => backG_ok hw hs hx c hc q b o hq a d) rfl h
  cases r with
  | bool => exact .bool
  | int a => exact .int a
  | str a => exact .str a
  | nil => exact .nil
  | ref a1 a2 a3 a4 a5 => exact (hz (.ref a1 a2 a3 a4 a5) hcl).up
  | slnil a => exact .slnil a
  | sl a1 a2 a3 a4 a5 a6 a7 a8 a9 => exact (hz (.sl a1 a2 a3 a4 a5 a6 a7 a8 a9) hcl).up
  | @fn _ f cap caps a1 a2 =>
    cases cap with
    | nil => exact .fn a1 fun j y hy => by simp at hy
    | cons => exact .undef
  | nilfn => exact .nilfn
  | nilmap => exact .nilmap
  | agg => exact .undef
  | tup => exact .undef
  | loc hM =>
    simp only [bk1]
    split
    · rename_i j hj; exact .loc (backG_M hσ hx hj hM)
    · exact .undef
  | bx hM =>
    simp only [bk1]
    split
    · rename_i j hj; exact .bx (backG_M hσ hx hj hM)
    · exact .undef
  | osl hM a1 a2 a3 a4 a5 =>
    simp only [bk1]
    split
    · rename_i j hj; exact .osl (backG_M hσ hx hj hM) a1 a2 a3 a4 a5
    · exact .undef
  | map hM =>
    simp only [bk1]
    split
    · rename_i j hj; exact .map (backG_M hσ hx hj hM)
    · exact .undef
  | opt => exact .undef
  | undef => exact .undef

theorem rep_bk (hσ : okIds σ = true) (hw : WOk G w) (hs : StoOk G w sto) (hx : Ext (useG G w σ ln sto) H) (c : Bool) (hc : c = false → ln = []) {x : AVal} {v : Value} (r : Rep H true x v) (hcl : c = true → clean x = true) :
    Rep (backG G σ sto H) true (bk σ x) v := by
  unfold bk
  split
  · cases r with
    | agg a b d =>
      split
      · rename_i hall
        refine .agg (by simpa using a) (fun j y hy => all_get hall hy) fun j y hy => ?_
        rw [List.getElem?_map] at hy
        obtain ⟨x, hx', rfl⟩ := Option.map_eq_some_iff.1 hy
        exact rep_bk1 hσ hw hs hx c hc (d j x hx') fun h => cleanL_get (by simpa [clean] using hcl h) hx'
      · exact .undef
  · cases r with
    | tup a d =>
      refine .tup (by simpa using a) fun j y hy => ?_
      rw [List.getElem?_map] at hy
      obtain ⟨x, hx', rfl⟩ := Option.map_eq_some_iff.1 hy
      exact rep_bk1 hσ hw hs hx c hc (d j x hx') fun h => cleanL_get (by simpa [clean] using hcl h) hx'
  · cases r with
    | fn a d =>
      refine .fn (by simpa using a) fun j y hy => ?_
      rw [List.getElem?_map] at hy
      obtain ⟨x, hx', rfl⟩ := Option.map_eq_some_iff.1 hy
      exact rep_bk1 hσ hw hs hx c hc (d j x hx') fun h => cleanL_get (by simpa [clean] using hcl h) hx'
  · exact rep_bk1 hσ hw hs hx c hc r hcl

theorem obj_bk (hσ : okIds σ = true) (hw : WOk G w) (hs : StoOk G w sto) (hx : Ext (useG G w σ ln sto) H) (c : Bool) (hc : c = false → ln = []) {i j g : Nat} {o : AObj} (ho : ObjOk H w' j g o) (hj : idOf σ j = some i) (hcl : c = true → cleanO o = true) (hcell : cellsOk (bkO σ o) = true) :
    ObjOk (backG G σ sto H) w' i g (bkO σ o) := by
  have hz : ∀ {x : AVal} {v : Value}, Rep H false x v → (c = true → clean x = true) → Rep (backG G σ sto H) false x v := fun r h => r.fz (c := c) (fun q b o hq a d => backG_ok hw hs hx c hc q b o hq a d) rfl h
  have hF : ∀ b, H.F b = none → (backG G σ sto H).F b = none := by
    intro b h
    simp only [backG]
    split
    · rfl
    · exact h
  cases o with
  | row esz l =>
    obtain ⟨ob, cap, h1, h2, h3, h4, h5, h6, h7, h8⟩ := ho
    refine ⟨ob, cap, backG_M hσ hx hj h1, h2, h3, h4, h5, h6, h7, fun b hob => ?_⟩
    obtain ⟨a1, a2, c', e, a3, a4, a5⟩ := h8 b hob
    exact ⟨hF b a1, a2, c', e, a3, a4, fun i j x y hx' hy => hz (a5 i j x y hx' hy) fun h => cleanL_get (cleanLL_get (hcl h) hx') hy⟩
  | box cs =>
    obtain ⟨b, cap, esz, h1, h2, c', e, h3, h4, h5, h6⟩ := ho
    refine ⟨b, cap, esz, backG_M hσ hx hj h1, hF b h2, c', e, h3, by simpa using h4, fun j y hy => all_get hcell hy, fun j y hy => ?_⟩
    rw [List.getElem?_map] at hy
    obtain ⟨x, hx', rfl⟩ := Option.map_eq_some_iff.1 hy
    exact rep_bk1 hσ hw hs hx c hc (h6 j x hx') fun h => cleanL_get (hcl h) hx'
  | mp es =>
    obtain ⟨b, cap, esz, h1, h2, me, cl, h3, h4, h4', h5⟩ := ho
    refine ⟨b, cap, esz, backG_M hσ hx hj h1, hF b h2, me, cl, h3, h4, h4', fun j x hx' => ?_⟩
    obtain ⟨m, a1, a2, a3, a4⟩ := h5 j x hx'
    exact ⟨m, a1, a2, a3, hz a4 fun h => cleanM_get (hcl h) hx'⟩

theorem ObjOk.blkF {G : Gh} {w : World} {id g : Nat} {o : AObj} (h : ObjOk G w id g o) (b : Nat) (hb : blkOf G id g = some b) : G.F b = none := by
  cases o with
  | row esz l =>
    obtain ⟨ob, cap, h1, _, _, _, _, _, _, h8⟩ := h
    exact (h8 b (by simpa [blkOf, h1] using hb)).1
  | box cs =>
    obtain ⟨b', cap, esz, h1, h2, _⟩ := h
    have : b' = b := by simpa [blkOf, h1] using hb
    exact this ▸ h2
  | mp es =>
    obtain ⟨b', cap, esz, h1, h2, _⟩ := h
    have : b' = b := by simpa [blkOf, h1] using hb
    exact this ▸ h2

theorem sto_bk (hσ : okIds σ = true) (hw : WOk G w) (hs : StoOk G w sto) (hx : Ext (useG G w σ ln sto) H) (c : Bool) (hc : c = false → ln = []) {s1 : Sto} (hw' : WOk H w') (hs' : StoOk H w' s1) (hcl : c = true → cleanS s1 = true) (hcell : stoCells (bkS σ s1 (delAll σ sto)) = true) :
    StoOk (backG G σ sto H) w' (bkS σ s1 (delAll σ sto)) := by
  have hext := backG_ext hw hs hx
  -- what stands in the store behind the call
  have key : ∀ i g o, sget (bkS σ s1 (delAll σ sto)) i = some (g, o) →
      (∃ j o', idTo σ i = some j ∧ sget s1 j = some (g, o') ∧ o = bkO σ o') ∨ (idTo σ i = none ∧ sget sto i = some (g, o)) := by
    intro i g o h
    rw [sget_bkS hσ] at h
    cases hi : idTo σ i with
    | none =>
      rw [hi] at h
      simp only [sget_delAll, hi] at h
      exact .inr ⟨rfl, h⟩
    | some j =>
      rw [hi] at h
      simp only at h
      cases hj : sget s1 j with
      | none => rw [hj] at h; simp [sget_delAll, hi] at h
      | some x =>
        rw [hj] at h
        simp only [Option.some.injEq, Prod.mk.injEq] at h
        obtain ⟨rfl, rfl⟩ := h
        exact .inl ⟨j, x.2, rfl, hj, rfl⟩
  have hfrF : ∀ i g o b, idTo σ i = none → sget sto i = some (g, o) → blkOf G i g = some b → H.F b = w.heap[b]? ∧ b < w.heap.size := by
    intro i g o b hi hget hb
    have hlt := ((hs.obj i g o hget).blk hw b hb).2
    have h1 := useG_fr (σ := σ) (ln := ln) hw hs hget hi hb
    rw [Array.getElem?_eq_getElem hlt] at h1 ⊢
    exact ⟨hx.F b _ h1, hlt⟩
  have hblkN : ∀ i g o, idTo σ i = none → sget sto i = some (g, o) → blkOf (backG G σ sto H) i g = blkOf G i g := by
    intro i g o hi hget
    obtain ⟨hd, hM⟩ := (hs.obj i g o hget).M
    simp only [blkOf, hM, hext.M i g hd hM]
  have hblkJ : ∀ i j g o, idTo σ i = some j → sget s1 j = some (g, o) → blkOf (backG G σ sto H) i g = blkOf H j g := by
    intro i j g o hi hget
    obtain ⟨hd, hM⟩ := (hs'.obj j g o hget).M
    simp only [blkOf, hM, backG_M hσ hx ((idOf_to hσ).2 hi) hM]
  refine ⟨fun i g o h => ?_, fun i i' g g' o o' h h' hne b hb => ?_⟩
  · have hco := stoCells_get hcell h
    rcases key i g o h with ⟨j, o', hi, hget, rfl⟩ | ⟨hi, hget⟩
    · exact obj_bk hσ hw hs hx c hc (hs'.obj j g o' hget) ((idOf_to hσ).2 hi) (fun h => cleanS_get (hcl h) hget) hco
    · refine (hs.obj i g o hget).mono hext.toMono (fun b hb => ?_) (fun b hb => ?_)
      · simp only [backG]; rw [if_pos ⟨i, g, o, hget, hi, hb⟩]
      · obtain ⟨h1, h2⟩ := hfrF i g o b hi hget hb
        rw [Array.getElem?_eq_getElem h2] at h1 ⊢
        exact hw'.F b _ h1
  · rcases key i g o h with ⟨j, p, hi, hget, rfl⟩ | ⟨hi, hget⟩
    · rw [hblkJ i j g p hi hget] at hb
      rcases key i' g' o' h' with ⟨j', p', hi', hget', rfl⟩ | ⟨hi', hget'⟩
      · rw [hblkJ i' j' g' p' hi' hget']
        refine hs'.apart j j' g g' p p' hget hget' ?_ b hb
        rintro rfl
        have h1 := (idOf_to hσ).2 hi
        have h2 := (idOf_to hσ).2 hi'
        rw [h1] at h2
        exact hne (Option.some.inj h2)
      · rw [hblkN i' g' o' hi' hget']
        intro hb'
        have h1 := (hs'.obj j g p hget).blkF b hb
        obtain ⟨h2, h3⟩ := hfrF i' g' o' b hi' hget' hb'
        rw [h1, Array.getElem?_eq_getElem h3] at h2; cases h2
    · rw [hblkN i g o hi hget] at hb
      rcases key i' g' o' h' with ⟨j', p', hi', hget', rfl⟩ | ⟨hi', hget'⟩
      · rw [hblkJ i' j' g' p' hi' hget']
        intro hb'
        have h1 := (hs'.obj j' g' p' hget').blkF b hb'
        obtain ⟨h2, h3⟩ := hfrF i g o b hi hget hb
        rw [h1, Array.getElem?_eq_getElem h3] at h2; cases h2
      · rw [hblkN i' g' o' hi' hget']
        exact hs.apart i i' g g' o o' hget hget' hne b hb
end

/-- A contract is used: over the things that σ names, some others lent. -/
theorem ACall.use {P : Program} {f : Nat} {args : List AVal} {sto : Sto} {T : AVal → Sto → Prop} (σ : Ids) (ln : List Nat) {args1 : List AVal} {sto1 : Sto} {R1 : AVal → Sto → Prop} (hσ : okIds σ = true) (h : ACall P f args1 sto1 R1)
    (ha : args.map (tr σ ln sto) = args1) (hs1 : mkSto σ ln sto σ = sto1) (hc : stoCells sto1 = true)
    (hT : ∀ r s, R1 r s → (ln = [] ∨ (clean r = true ∧ cleanS s = true)) ∧ stoCells (bkS σ s (delAll σ sto)) = true ∧ T (bk σ r) (bkS σ s (delAll σ sto))) : ACall P f args sto T := by
  refine ⟨h.able, fun G w cargs hw hs hargs => ?_⟩
  subst ha hs1
  refine (h.calls (useG G w σ ln sto) w cargs (useG_wok hw hs) (sto_tr hw hs hσ hc) ⟨by simpa using hargs.1, fun j y hy => ?_⟩).mono fun e w' p => ?_
  · rw [List.getElem?_map] at hy
    obtain ⟨x, hx, rfl⟩ := Option.map_eq_some_iff.1 hy
    exact rep_tr hw hs hσ (hargs.2 j x hx)
  · obtain ⟨H, cr, r, s1, rfl, hx, hw', hs', hr, hR⟩ := p
    obtain ⟨hcl, hcell, hT'⟩ := hT r s1 hR
    refine ⟨backG G σ sto H, cr, bk σ r, bkS σ s1 (delAll σ sto), rfl, backG_ext hw hs hx, backG_wok hw hs hx hw', ?_, ?_, hT'⟩
    · rcases hcl with h | ⟨_, h⟩
      · exact sto_bk hσ hw hs hx false (fun _ => h) hw' hs' (fun h => by cases h) hcell
      · exact sto_bk hσ hw hs hx true (fun h => by cases h) hw' hs' (fun _ => h) hcell
    · rcases hcl with h | ⟨h, _⟩
      · exact rep_bk hσ hw hs hx false (fun _ => h) hr (fun h => by cases h)
      · exact rep_bk hσ hw hs hx true (fun h => by cases h) hr (fun _ => h)
end Go.Rad
