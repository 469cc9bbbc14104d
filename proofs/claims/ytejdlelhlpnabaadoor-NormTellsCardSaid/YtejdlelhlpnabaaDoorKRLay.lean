/- The table of types that the logic uses, checked against the program's own. -/
import Derived.Test.YtejdlelhlpnabaaDoorKRVc
import Derived.Laws.OwnMore
set_option linter.all false
namespace Go.Rad
open Go

def zeroIs : AVal → Value → Bool
  | .bool false, .bool false => true
  | .int k 0, .int k' 0 => k == k'
  | .str s, .string s' => s.size == 0 && s'.size == 0
  | .nil, .pointer none => true
  | .sl true true [], .slice none 0 0 => true
  | .nilfn, .nilFunc => true
  | .nilmap, .map none => true
  | _, _ => false

def zerosAre : List AVal → List Value → Bool
  | [], [] => true
  | x :: xs, v :: vs => zeroIs x v && zerosAre xs vs
  | _, _ => false

def fieldsAre (L : Lay) : List (Nat × Nat) → List Field → Bool
  | [], [] => true
  | (o, t) :: fs, f :: gs => f.offset == o && f.type == t && decide (0 < (L t).sz) && (L t).ty != .other && fieldsAre L fs gs
  | _, _ => false

def descIs (L : Lay) : Ty → TypeDesc → Bool
  | .int k, .int k' => k == k'
  | .bool, .bool => true
  | .string, .string => true
  | .ptr, .pointer _ => true
  | .slice e, .slice e' => e == e' && (L e).ty != .other
  | .array n e, .array n' e' => n == n' && e == e' && (L e).ty != .other
  | .struct fs, .struct gs => fieldsAre L fs gs.toList
  | .map k e, .map k' e' => k == k' && e == e' && (L k).ty != .other && (L e).ty != .other
  | .func, .func _ _ _ => true
  | _, _ => false

def isAggD : TypeDesc → Bool
  | .struct _ | .array _ _ => true
  | _ => false

def oneIs : List AVal → Value → Bool
  | [x], v => zeroIs x v
  | _, _ => false

def tyOk (P : Program) (L : Lay) (t : Nat) : Bool :=
  (L t).ty == .other ||
  match P.info? t, P.underlying t with
  | some i, some d => descIs L (L t).ty d && i.size == (L t).sz && i.bytes == (L t).by8 && isAggD d == (L t).ag &&
      (match i.zero with | some z => zerosAre (L t).zero z.cells.toList && ((L t).ag || oneIs (L t).zero z) | none => false) && (L t).zero.length == (L t).sz
  | _, _ => false

def layOf (tbl : List TI) : Lay := fun t => tbl.getD t ⟨.other, false, 0, 0, []⟩

def LOk (P : Program) (L : Lay) : Prop := ∀ t, tyOk P L t = true

theorem layOk (P : Program) (tbl : List TI) (h : (List.range tbl.length).all (tyOk P (layOf tbl)) = true) : LOk P (layOf tbl) := by
  intro t
  by_cases ht : t < tbl.length
  · exact List.all_eq_true.1 h t (List.mem_range.2 ht)
  · have : layOf tbl t = ⟨.other, false, 0, 0, []⟩ := by simp [layOf, List.getD, List.getElem?_eq_none (Nat.le_of_not_lt ht)]
    simp [tyOk, this]

section
variable {P : Program} {L : Lay}

/-- What is known of a type that the table knows. -/
structure Known (P : Program) (L : Lay) (t : Nat) (i : TypeInfo) (d : TypeDesc) (z : Value) : Prop where
  info : P.info? t = some i
  und : P.underlying t = some d
  desc : descIs L (L t).ty d = true
  size : i.size = (L t).sz
  bytes : i.bytes = (L t).by8
  agg : isAggD d = (L t).ag
  zero : i.zero = some z
  zeros : zerosAre (L t).zero z.cells.toList = true
  one : (L t).ag = true ∨ oneIs (L t).zero z = true
  zlen : (L t).zero.length = (L t).sz

theorem LOk.known (h : LOk P L) {t : Nat} (ht : (L t).ty ≠ .other) : ∃ i d z, Known P L t i d z := by
  have := h t
  unfold tyOk at this
  simp only [Bool.or_eq_true, beq_iff_eq, ht, false_or] at this
  split at this
  · rename_i i d hi hd
    simp only [Bool.and_eq_true, beq_iff_eq] at this
    obtain ⟨⟨⟨⟨⟨h1, h2⟩, h3⟩, h4⟩, h5⟩, h6⟩ := this
    split at h5
    · rename_i z hz
      simp only [Bool.and_eq_true, Bool.or_eq_true] at h5
      exact ⟨i, d, z, hi, hd, h1, h2, h3, h4, hz, h5.1, h5.2, h6⟩
    · cases h5
  · cases this

theorem zerosAre_length : ∀ (xs : List AVal) (vs : List Value), zerosAre xs vs = true → xs.length = vs.length
  | [], [], _ => rfl
  | [], _ :: _, h => by simp [zerosAre] at h
  | _ :: _, [], h => by simp [zerosAre] at h
  | x :: xs, v :: vs, h => by
    simp only [zerosAre, Bool.and_eq_true] at h
    simp [zerosAre_length xs vs h.2]

theorem zeroIs_rep {G : Gh} {x : AVal} {v : Value} (h : zeroIs x v = true) : x.isCell = true ∧ x.isFz = true ∧ Rep G false x v := by
  unfold zeroIs at h
  split at h <;> first
    | (simp at h; done)
    | skip
  · exact ⟨rfl, rfl, .bool⟩
  · simp only [beq_iff_eq] at h; subst h
    refine ⟨rfl, rfl, .int ?_⟩
    constructor <;> (rename_i k; cases k <;> decide)
  · simp only [Bool.and_eq_true, beq_iff_eq] at h
    rename_i s s'
    have e1 : s = ByteArray.empty := ByteArray.ext (Array.eq_empty_of_size_eq_zero h.1)
    have e2 : s' = ByteArray.empty := ByteArray.ext (Array.eq_empty_of_size_eq_zero h.2)
    subst e1 e2
    exact ⟨rfl, rfl, .str (Nat.zero_le _)⟩
  · exact ⟨rfl, rfl, .nil⟩
  · exact ⟨rfl, rfl, .slnil (fun _ => rfl)⟩
  · exact ⟨rfl, rfl, .nilfn⟩
  · exact ⟨rfl, rfl, .nilmap⟩

theorem zerosAre_get : ∀ (xs : List AVal) (vs : List Value), zerosAre xs vs = true → ∀ (j : Nat) (x : AVal), xs[j]? = some x → ∃ v, vs[j]? = some v ∧ zeroIs x v = true
  | [], [], _, j, x, hx => by simp at hx
  | [], _ :: _, h, _, _, _ => by simp [zerosAre] at h
  | _ :: _, [], h, _, _, _ => by simp [zerosAre] at h
  | y :: xs, v :: vs, h, j, x, hx => by
    simp only [zerosAre, Bool.and_eq_true] at h
    cases j with
    | zero => simp at hx; subst hx; exact ⟨v, rfl, h.1⟩
    | succ j => simpa using zerosAre_get xs vs h.2 j x (by simpa using hx)

theorem fieldsAre_get : ∀ (fs : List (Nat × Nat)) (gs : List Field), fieldsAre L fs gs = true → ∀ (j : Nat) (o t : Nat), fs[j]? = some (o, t) →
    ∃ f, gs[j]? = some f ∧ f.offset = o ∧ f.type = t ∧ 0 < (L t).sz ∧ (L t).ty ≠ .other
  | [], [], _, j, _, _, hx => by simp at hx
  | [], _ :: _, h, _, _, _, _ => by simp [fieldsAre] at h
  | _ :: _, [], h, _, _, _, _ => by simp [fieldsAre] at h
  | (o', t') :: fs, g :: gs, h, j, o, t, hx => by
    simp only [fieldsAre, Bool.and_eq_true, beq_iff_eq, decide_eq_true_eq, bne_iff_ne] at h
    cases j with
    | zero => simp at hx; obtain ⟨rfl, rfl⟩ := hx; exact ⟨g, rfl, h.1.1.1.1, h.1.1.1.2, h.1.1.2, h.1.2⟩
    | succ j => simpa using fieldsAre_get fs gs h.2 j o t (by simpa using hx)

theorem fieldsAre_length : ∀ (fs : List (Nat × Nat)) (gs : List Field), fieldsAre L fs gs = true → fs.length = gs.length
  | [], [], _ => rfl
  | [], _ :: _, h => by simp [fieldsAre] at h
  | _ :: _, [], h => by simp [fieldsAre] at h
  | (o', t') :: fs, g :: gs, h => by
    simp only [fieldsAre, Bool.and_eq_true] at h
    simp [fieldsAre_length fs gs h.2]
end
end Go.Rad
/- How own things stand when memory grows or is written. -/
namespace Go.Rad
open Go

def newG (G : Gh) (id : Nat) (hd : Hd) : Gh := { G with M := fun i g => if i = id ∧ g = G.N then some hd else G.M i g, N := G.N + 1 }

theorem Kept.alloc (w : World) (c : Array Value) (e : TypeId) : Kept w (w.alloc (.cells c e)) := by
  refine ⟨rfl, rfl, fun b c' e' fr h => ?_⟩
  have h' : (w.heap.push (.cells c e))[b]? = some (Obj.cells c' e' fr) := h
  rw [Array.getElem?_push] at h'
  split at h'
  · simp only [Option.some.injEq, Obj.cells.injEq] at h'; exact .inl h'.2.2.symm
  · exact .inr ⟨c', e', h'⟩
theorem Kept.allocMap (w : World) (me : Array MapEntry) (cl : Nat) : Kept w (w.alloc (.map me cl)) := by
  refine ⟨rfl, rfl, fun b c' e' fr h => ?_⟩
  have h' : (w.heap.push (.map me cl))[b]? = some (Obj.cells c' e' fr) := h
  rw [Array.getElem?_push] at h'
  split at h'
  · simp at h'
  · exact .inr ⟨c', e', h'⟩
theorem Kept.setRow (w : World) (b : Nat) (cs : Array Value) : Kept w (w.setRow b cs) := by
  refine ⟨rfl, rfl, fun b' c' e' fr h => ?_⟩
  simp only [World.setRow, Array.getElem?_modify] at h
  split at h
  · obtain ⟨o, ho, he⟩ := Option.map_eq_some_iff.1 h
    cases o with
    | cells c t fr' => simp only [Obj.cells.injEq] at he; exact .inr ⟨c, t, by rw [ho, he.2.2]⟩
    | _ => simp at he
  · exact .inr ⟨c', e', h⟩
theorem Kept.draw (w : World) (n : Nat) : Kept w { w with drawn := n } := ⟨rfl, rfl, fun _ c e _ h => .inr ⟨c, e, h⟩⟩
theorem Kept.drew (w : World) : Kept w w.drew := ⟨rfl, rfl, fun _ c e _ h => .inr ⟨c, e, h⟩⟩
theorem Kept.setMap (w : World) (b : Nat) (me : Array MapEntry) (cl : Nat) : Kept w { w with heap := w.heap.setIfInBounds b (.map me cl) } := by
  refine ⟨rfl, rfl, fun b' c' e' fr h => ?_⟩
  have h' : (w.heap.setIfInBounds b (.map me cl))[b']? = some (Obj.cells c' e' fr) := h
  by_cases hb : b = b'
  · subst hb
    rw [Array.getElem?_setIfInBounds] at h'
    simp only [if_true] at h'
    split at h' <;> simp at h'
  · rw [Array.getElem?_setIfInBounds_ne hb] at h'
    exact .inr ⟨c', e', h'⟩

theorem newG_M (G : Gh) (id : Nat) (hd : Hd) : (newG G id hd).M id G.N = some hd := by simp [newG]

theorem newG_ext {G : Gh} {w : World} (hw : WOk G w) (id : Nat) (hd : Hd) : Ext G (newG G id hd) where
  F _ _ h := h
  S _ h := h
  S' _ h := .inl h
  L _ := Iff.rfl
  M i g h x := by
    simp only [newG]
    by_cases e : i = id ∧ g = G.N
    · rw [e.1, e.2, hw.N id G.N (Nat.le_refl _)] at x; cases x
    · rw [if_neg e]; exact x
  N := Nat.le_succ _
  W0 := rfl

theorem ObjOk.mono {G G' : Gh} {w w' : World} {id g : Nat} {o : AObj} (hm : Mono G G') (hF : ∀ b, blkOf G id g = some b → G'.F b = none)
    (hb : ∀ b, blkOf G id g = some b → w'.heap[b]? = w.heap[b]?) (h : ObjOk G w id g o) : ObjOk G' w' id g o := by
  cases o with
  | row esz l =>
    obtain ⟨ob, cap, h1, h2, h3, h4, h5, h6, h7, h8⟩ := h
    refine ⟨ob, cap, hm.M _ _ _ h1, h2, h3, h4, h5, h6, h7, fun b hob => ?_⟩
    obtain ⟨a1, a2, c, e, a3, a4, a5⟩ := h8 b hob
    have hbk : blkOf G id g = some b := by simp [blkOf, h1, hob]
    exact ⟨hF b hbk, a2, c, e, (hb b hbk).trans a3, a4, fun i j x y hx hy => (a5 i j x y hx hy).mono hm⟩
  | box cs =>
    obtain ⟨b, cap, esz, h1, _, c, e, h3, h4, h5, h6⟩ := h
    have hbk : blkOf G id g = some b := by simp [blkOf, h1]
    exact ⟨b, cap, esz, hm.M _ _ _ h1, hF b hbk, c, e, (hb b hbk).trans h3, h4, h5, fun j x hx => (h6 j x hx).mono hm⟩
  | mp es =>
    obtain ⟨b, cap, esz, h1, _, me, cl, h3, h4, h4', h5⟩ := h
    have hbk : blkOf G id g = some b := by simp [blkOf, h1]
    refine ⟨b, cap, esz, hm.M _ _ _ h1, hF b hbk, me, cl, (hb b hbk).trans h3, h4, h4', fun j x hx => ?_⟩
    obtain ⟨m, a1, a2, a3, a4⟩ := h5 j x hx
    exact ⟨m, a1, a2, a3, a4.mono hm⟩

theorem ObjOk.blk {G : Gh} {w : World} {id g : Nat} {o : AObj} (h : ObjOk G w id g o) (hw : WOk G w) (b : Nat) (hb : blkOf G id g = some b) :
    G.F b = none ∧ b < w.heap.size := by
  have hlt : b < w.heap.size := by
    unfold blkOf at hb
    cases hM : G.M id g with
    | none => rw [hM] at hb; cases hb
    | some hd => rw [hM] at hb; exact hw.M _ _ _ _ hM hb
  refine ⟨?_, hlt⟩
  cases o with
  | row esz l =>
    obtain ⟨ob, cap, h1, _, _, _, _, _, _, h8⟩ := h
    exact (h8 b (by simpa [blkOf, h1] using hb)).1
  | box cs =>
    obtain ⟨b', cap, esz, h1, h2, _⟩ := h
    have : b' = b := by simpa [blkOf, h1] using hb
    exact this ▸ h2
  | mp es =>
    obtain ⟨b', cap, esz, h1, h2, _⟩ := h
    have : b' = b := by simpa [blkOf, h1] using hb
    exact this ▸ h2

theorem ObjOk.M {G : Gh} {w : World} {id g : Nat} {o : AObj} (h : ObjOk G w id g o) : ∃ hd, G.M id g = some hd := by
  cases o with
  | row esz l => obtain ⟨ob, cap, h1, _⟩ := h; exact ⟨_, h1⟩
  | box cs => obtain ⟨b', cap, esz, h1, h2, _⟩ := h; exact ⟨_, h1⟩
  | mp es => obtain ⟨b', cap, esz, h1, h2, _⟩ := h; exact ⟨_, h1⟩

/-- The block of what stands under an id now. -/
def oldBlk (G : Gh) (sto : Sto) (id : Nat) : Option Nat := (sget sto id).bind fun x => blkOf G id x.1

theorem sto_put {G : Gh} {w w' : World} {sto : Sto} {id : Nat} {o : AObj} {hd : Hd} (hk : Kept w w') (hw : WOk G w) (hs : StoOk G w sto)
    (hsize : w.heap.size ≤ w'.heap.size)
    (hb : ∀ b, b < w.heap.size → oldBlk G sto id ≠ some b → w'.heap[b]? = w.heap[b]?)
    (hnew : ∀ b, hd.blk = some b → b < w'.heap.size ∧ (w.heap.size ≤ b ∨ oldBlk G sto id = some b))
    (ho : ObjOk (newG G id hd) w' id G.N o) :
    Ext G (newG G id hd) ∧ WOk (newG G id hd) w' ∧ StoOk (newG G id hd) w' (sput sto id (G.N, o)) := by
  have hext := newG_ext hw id hd
  have hlive : ∀ i g o, sget sto i = some (g, o) → i ≠ id → ∀ b, blkOf G i g = some b → oldBlk G sto id ≠ some b := by
    intro i g o hi hne b hbk he
    unfold oldBlk at he
    cases hx : sget sto id with
    | none => rw [hx] at he; cases he
    | some x =>
      rw [hx] at he
      exact hs.apart i id g x.1 o x.2 hi hx hne b hbk he
  have hblk : ∀ i g o, sget sto i = some (g, o) → blkOf (newG G id hd) i g = blkOf G i g := by
    intro i g o hi
    obtain ⟨h0, hM⟩ := (hs.obj i g o hi).M
    simp only [blkOf, hM, hext.M i g h0 hM]
  refine ⟨hext, ⟨hw.K.trans hk, ?_, ?_, ?_, fun g l h => (hw.T g l h).mono hext.toMono⟩, ⟨?_, ?_⟩⟩
  · intro b x hx
    have hold := hw.F b x hx
    have hlt : b < w.heap.size := (Array.getElem?_eq_some_iff.1 hold).1
    rw [hb b hlt ?_]
    · exact hold
    · intro he
      unfold oldBlk at he
      cases hx' : sget sto id with
      | none => rw [hx'] at he; cases he
      | some y =>
        rw [hx'] at he
        have := ((hs.obj id y.1 y.2 hx').blk hw b he).1
        have hx2 : G.F b = some x := hx
        rw [this] at hx2; cases hx2
  · intro i g h b hM hbk
    simp only [newG] at hM
    split at hM
    · cases hM; exact (hnew b hbk).1
    · exact Nat.lt_of_lt_of_le (hw.M _ _ _ _ hM hbk) hsize
  · intro i g hg
    have hg' : G.N + 1 ≤ g := hg
    simp only [newG]
    rw [if_neg (by omega)]
    exact hw.N i g (by omega)
  · intro i g x hx
    rw [sget_sput] at hx
    by_cases he : id = i
    · subst he
      rw [if_pos rfl] at hx
      simp only [Option.some.injEq, Prod.mk.injEq] at hx
      obtain ⟨rfl, rfl⟩ := hx
      exact ho
    · rw [if_neg he] at hx
      have hob := hs.obj i g x hx
      refine hob.mono hext.toMono (fun b hbk => (hob.blk hw b hbk).1) (fun b hbk => ?_)
      exact hb b (hob.blk hw b hbk).2 (hlive i g x hx (Ne.symm he) b hbk)
  · intro i i' g g' x x' hx hx' hne b hbk
    rw [sget_sput] at hx hx'
    by_cases he : id = i
    · subst he
      rw [if_pos rfl] at hx
      simp only [Option.some.injEq, Prod.mk.injEq] at hx
      obtain ⟨rfl, rfl⟩ := hx
      rw [if_neg hne] at hx'
      rw [hblk _ _ _ hx']
      intro hbk'
      have h1 : hd.blk = some b := by simpa [blkOf, newG_M] using hbk
      have h2 := (hs.obj _ _ _ hx').blk hw b hbk'
      rcases (hnew b h1).2 with h3 | h3
      · omega
      · exact hlive i' g' x' hx' (Ne.symm hne) b hbk' h3
    · rw [if_neg he] at hx
      rw [hblk _ _ _ hx] at hbk
      by_cases he' : id = i'
      · subst he'
        rw [if_pos rfl] at hx'
        simp only [Option.some.injEq, Prod.mk.injEq] at hx'
        obtain ⟨rfl, rfl⟩ := hx'
        intro hbk'
        have h1 : hd.blk = some b := by simpa [blkOf, newG_M] using hbk'
        have h2 := (hs.obj _ _ _ hx).blk hw b hbk
        rcases (hnew b h1).2 with h3 | h3
        · omega
        · exact hlive i g x hx hne b hbk h3
      · rw [if_neg he'] at hx'
        rw [hblk _ _ _ hx']
        exact hs.apart i i' g g' x x' hx hx' hne b hbk

/-- A write into the block of an own thing. -/
theorem sto_write {G : Gh} {w w' : World} {sto : Sto} {id g : Nat} {o o' : AObj} (hk : Kept w w') (hw : WOk G w) (hs : StoOk G w sto) (hget : sget sto id = some (g, o))
    (hsize : w.heap.size ≤ w'.heap.size) (hb : ∀ b, b < w.heap.size → blkOf G id g ≠ some b → w'.heap[b]? = w.heap[b]?) (ho : ObjOk G w' id g o') :
    WOk G w' ∧ StoOk G w' (sput sto id (g, o')) := by
  have hob := hs.obj id g o hget
  have hother : ∀ i g' x, sget sto i = some (g', x) → id ≠ i → ∀ b, blkOf G i g' = some b → w'.heap[b]? = w.heap[b]? := by
    intro i g' x hx hne b hbk
    refine hb b ((hs.obj i g' x hx).blk hw b hbk).2 ?_
    intro he
    exact hs.apart id i g g' o x hget hx hne b he hbk
  refine ⟨⟨hw.K.trans hk, ?_, ?_, hw.N, hw.T⟩, ⟨?_, ?_⟩⟩
  · intro b x hx
    have hold := hw.F b x hx
    rw [hb b (Array.getElem?_eq_some_iff.1 hold).1]
    · exact hold
    · intro he; rw [(hob.blk hw b he).1] at hx; cases hx
  · exact fun i g h b hM hbk => Nat.lt_of_lt_of_le (hw.M _ _ _ _ hM hbk) hsize
  · intro i g' x hx
    rw [sget_sput] at hx
    by_cases he : id = i
    · subst he
      rw [if_pos rfl] at hx
      simp only [Option.some.injEq, Prod.mk.injEq] at hx
      obtain ⟨rfl, rfl⟩ := hx
      exact ho
    · rw [if_neg he] at hx
      exact (hs.obj i g' x hx).mono (Ext.refl G).toMono (fun b hbk => ((hs.obj i g' x hx).blk hw b hbk).1) (hother i g' x hx he)
  · intro i i' g1 g2 x x' hx hx' hne b hbk
    rw [sget_sput] at hx hx'
    have h1 : ∃ y, sget sto i = some (g1, y) := by
      by_cases he : id = i
      · subst he; rw [if_pos rfl] at hx; simp only [Option.some.injEq, Prod.mk.injEq] at hx; exact ⟨o, by rw [← hx.1]; exact hget⟩
      · rw [if_neg he] at hx; exact ⟨x, hx⟩
    have h2 : ∃ y, sget sto i' = some (g2, y) := by
      by_cases he : id = i'
      · subst he; rw [if_pos rfl] at hx'; simp only [Option.some.injEq, Prod.mk.injEq] at hx'; exact ⟨o, by rw [← hx'.1]; exact hget⟩
      · rw [if_neg he] at hx'; exact ⟨x', hx'⟩
    obtain ⟨y, h1⟩ := h1
    obtain ⟨y', h2⟩ := h2
    exact hs.apart i i' g1 g2 y y' h1 h2 hne b hbk

/-- The same memory but for blocks that are none of ours (a draw, a block more). -/
theorem world_grown {G : Gh} {w w' : World} {sto : Sto} (hk : Kept w w') (hw : WOk G w) (hs : StoOk G w sto) (hsize : w.heap.size ≤ w'.heap.size)
    (hb : ∀ b, b < w.heap.size → w'.heap[b]? = w.heap[b]?) : WOk G w' ∧ StoOk G w' sto := by
  refine ⟨⟨hw.K.trans hk, fun b x hx => ?_, fun i g h b hM hbk => Nat.lt_of_lt_of_le (hw.M _ _ _ _ hM hbk) hsize, hw.N, hw.T⟩, ⟨fun id g o h => ?_, hs.apart⟩⟩
  · have hold := hw.F b x hx
    rw [hb b (Array.getElem?_eq_some_iff.1 hold).1]; exact hold
  · have hob := hs.obj id g o h
    exact hob.mono (Ext.refl G).toMono (fun b hbk => (hob.blk hw b hbk).1) (fun b hbk => hb b (hob.blk hw b hbk).2)

theorem sto_del {G : Gh} {w : World} {sto : Sto} (hs : StoOk G w sto) (id : Nat) : StoOk G w (sdel sto id) := by
  refine ⟨fun i g o h => ?_, fun i i' g g' o o' h h' => ?_⟩
  · rw [sget_sdel] at h
    split at h
    · cases h
    · exact hs.obj i g o h
  · rw [sget_sdel] at h h'
    split at h
    · cases h
    · split at h'
      · cases h'
      · exact hs.apart i i' g g' o o' h h'

theorem TmOk.mono {G G' : Gh} {tm : Tm} {a : Array Value} (h : TmOk G tm a) (hm : Mono G G') : TmOk G' tm a := fun t => (h t).mono hm

theorem TmOk.put {G : Gh} {tm : Tm} {a : Array Value} (h : TmOk G tm a) {d : Nat} {r : AVal} {v : Value} (hd : d < a.size) (hr : Rep G true r v) :
    TmOk G ((d, r) :: tm) (a.setIfInBounds d v) := by
  intro t
  simp only [lk]
  by_cases e : d = t
  · subst e
    rw [if_pos rfl]
    have : (a.setIfInBounds d v).getD d undef = v := by simp [Array.getD, hd]
    rw [this]; exact hr
  · rw [if_neg e]
    have : (a.setIfInBounds d v).getD t undef = a.getD t undef := by
      simp only [Array.getD_eq_getD_getElem?]
      rw [Array.getElem?_setIfInBounds_ne e]
    rw [this]; exact h t
end Go.Rad
/- An own row that is given away for good: it is a frozen list from then on. -/
namespace Go.Rad
open Go

def frzG (G : Gh) (w : World) (b : Nat) : Gh := { G with F := fun b' => if b' = b then w.heap[b]? else G.F b', S := fun b' => b' = b ∨ G.S b' }

theorem frzG_ext {G : Gh} {w : World} {b : Nat} (hF : G.F b = none) : Ext G (frzG G w b) where
  F b' o h := by
    simp only [frzG]
    split
    · rename_i e; subst e; rw [hF] at h; cases h
    · exact h
  S b' h := .inr h
  S' b' h := by
    rcases h with h | h
    · exact .inr (h ▸ hF)
    · exact .inl h
  L _ := Iff.rfl
  M _ _ _ h := h
  N := Nat.le_refl _
  W0 := rfl

theorem sto_freeze {G : Gh} {w : World} {sto : Sto} {id g esz : Nat} {l : List (List AVal)} (hw : WOk G w) (hs : StoOk G w sto) (hget : sget sto id = some (g, .row esz l)) :
    ∃ G', Ext G G' ∧ WOk G' w ∧ StoOk G' w (sdel sto id) ∧ ∀ (off len : Nat) (v : Value), off + len ≤ l.length → Rep G true (.osl id g off len) v → Rep G' true (.sl true false ((l.drop off).take len)) v := by
  have hob := hs.obj id g _ hget
  have hblk := fun b => hob.blk hw b
  obtain ⟨ob, cap, h1, h2, h3, h4, h5, h6, h7, h8⟩ := hob
  cases ob with
  | none =>
    have hc := h7 rfl
    refine ⟨G, .refl G, hw, sto_del hs id, fun off len v hle hr => ?_⟩
    have hl : len = 0 := by omega
    subst hl
    cases hr with
    | osl _ _ _ _ _ _ => simp only [List.take_zero]; exact .slnil (fun h => by cases h)
  | some b =>
    obtain ⟨hF, hcap, c, e, hc, hsz, hrep⟩ := h8 b rfl
    have hbid : blkOf G id g = some b := by simp [blkOf, h1]
    have hext := frzG_ext (w := w) hF
    refine ⟨frzG G w b, hext, ⟨hw.K, fun b' o h => ?_, hw.M, hw.N, fun g l h => (hw.T g l h).mono hext.toMono⟩, ⟨fun i g' o h => ?_, fun i i' g1 g2 o o' h h' hne b' hb => ?_⟩, fun off len v hle hr => ?_⟩
    · simp only [frzG] at h
      split at h
      · rename_i e; subst e; exact h
      · exact hw.F b' o h
    · rw [sget_sdel] at h
      split at h
      · cases h
      · rename_i hne
        have ho := hs.obj i g' o h
        refine ho.mono hext.toMono (fun b' hb' => ?_) (fun _ _ => rfl)
        have hb1 : blkOf G i g' = some b' := hb'
        have : b' ≠ b := by
          rintro rfl
          exact hs.apart id i g g' _ o hget h hne b' hbid hb1
        simp only [frzG, if_neg this]
        exact (ho.blk hw b' hb1).1
    · rw [sget_sdel] at h h'
      split at h
      · cases h
      · split at h'
        · cases h'
        · exact hs.apart i i' g1 g2 o o' h h' hne b' hb
    · cases hr with
      | @osl _ _ _ _ ob' cap' esz' a hM hle' hbig hn ha1 ha2 =>
        rw [h1] at hM
        simp only [Option.some.injEq, Hd.mk.injEq] at hM
        obtain ⟨rfl, rfl, rfl⟩ := hM
        rcases Nat.eq_zero_or_pos len with hz | hz
        · subst hz
          simp only [List.take_zero]; exact .slnil (fun h => by cases h)
        · have ha := ha1 b rfl (by omega)
          subst ha
          have hlen : ((l.drop off).take len).length = len := by simp; omega
          have hgetl : ∀ (i : Nat) (x : List AVal), ((l.drop off).take len)[i]? = some x → l[off + i]? = some x := by
            intro i x hx
            rw [List.getElem?_take] at hx
            split at hx
            · rwa [List.getElem?_drop] at hx
            · cases hx
          have hFb : (frzG G w b).F b = some (.cells c e (0, 0)) := by simp [frzG, hc]
          have hR := Rep.sl (G := frzG G w b) (o := true) (q := true) (full := false) (l := (l.drop off).take len) (cap := cap - off) (b := b) (off := off * esz) (c := c) (e := e) (fr := (0, 0)) (esz := esz)
            (by rw [hlen]; omega) (fun h => by cases h) (by rw [hlen]; exact big_max hbig) (.inl (.inl rfl)) hFb
            (by rw [hlen, hsz, ← Nat.add_mul]; exact Nat.mul_le_mul_right _ hle')
            (fun i x hx => h5 _ x (hgetl i x hx)) (fun i j x y hx hy => h6 _ j x y (hgetl i x hx) hy)
            (fun i j x y hx hy => by
              have := (hrep _ j x y (hgetl i x hx) hy).mono hext.toMono
              rw [Nat.add_mul] at this
              exact this)
          rw [hlen] at hR
          exact hR

/-- What a value is, once the row 'id' is given away. -/
def rf1 (id g : Nat) (l : List (List AVal)) : AVal → AVal
  | .osl i h off len => if i = id ∧ h = g ∧ off + len ≤ l.length then .sl true false ((l.drop off).take len) else .osl i h off len
  | v => v
def rf (id g : Nat) (l : List (List AVal)) : AVal → AVal
  | .agg cs => .agg (cs.map (rf1 id g l))
  | .tup cs => .tup (cs.map (rf1 id g l))
  | v => rf1 id g l v

def rfO (id g : Nat) (l : List (List AVal)) : AObj → AObj
  | .box cs => .box (cs.map (rf1 id g l))
  | o => o
def rfS (id g : Nat) (l : List (List AVal)) : Sto → Sto
  | [] => []
  | (i, h, o) :: s => (i, h, rfO id g l o) :: rfS id g l s
def rfT (id g : Nat) (l : List (List AVal)) : Tm → Tm
  | [] => []
  | (t, v) :: s => (t, rf id g l v) :: rfT id g l s

theorem sget_rfS (id g : Nat) (l : List (List AVal)) (i : Nat) : ∀ s : Sto, sget (rfS id g l s) i = (sget s i).map fun x => (x.1, rfO id g l x.2)
  | [] => rfl
  | (j, h, o) :: s => by
    simp only [rfS, sget]
    split
    · rfl
    · exact sget_rfS id g l i s
theorem lk_rfT (id g : Nat) (l : List (List AVal)) (t : Nat) : ∀ s : Tm, lk (rfT id g l s) t = rf id g l (lk s t)
  | [] => rfl
  | (j, v) :: s => by
    simp only [rfT, lk]
    split
    · rfl
    · exact lk_rfT id g l t s

theorem rf1ucell {id g : Nat} {l : List (List AVal)} {x : AVal} (h : x.isCell = true) : (rf1 id g l x).isCell = true := by
  unfold rf1
  split
  · split
    · rfl
    · exact h
  · exact h

section
variable {G G' : Gh} {id g : Nat} {l : List (List AVal)} (hm : Mono G G') (hR : ∀ (off len : Nat) (v : Value), off + len ≤ l.length → Rep G true (.osl id g off len) v → Rep G' true (.sl true false ((l.drop off).take len)) v)
include hm hR
theorem Rep.rf1 {x : AVal} {v : Value} (h : Rep G true x v) : Rep G' true (rf1 id g l x) v := by
  unfold Rad.rf1
  split
  · split
    · rename_i hc
      obtain ⟨rfl, rfl, hle⟩ := hc
      exact hR _ _ v hle h
    · exact h.mono hm
  · exact h.mono hm

theorem Rep.rf {x : AVal} {v : Value} (h : Rep G true x v) : Rep G' true (rf id g l x) v := by
  unfold Rad.rf
  split
  · cases h with
    | agg a b c =>
      refine .agg (by simp [a]) (fun j x hx => ?_) (fun j x hx => ?_)
      · rw [List.getElem?_map] at hx
        obtain ⟨y, hy, rfl⟩ := Option.map_eq_some_iff.1 hx
        exact rf1ucell (b j y hy)
      · rw [List.getElem?_map] at hx
        obtain ⟨y, hy, rfl⟩ := Option.map_eq_some_iff.1 hx
        exact (c j y hy).rf1 hm hR
  · cases h with
    | tup a c =>
      refine .tup (by simp [a]) (fun j x hx => ?_)
      rw [List.getElem?_map] at hx
      obtain ⟨y, hy, rfl⟩ := Option.map_eq_some_iff.1 hx
      exact (c j y hy).rf1 hm hR
  · exact h.rf1 hm hR

theorem ObjOk.rfO {w : World} {i h : Nat} {o : AObj} (ho : ObjOk G' w i h o) (hb : ∀ cs, o = .box cs → ∃ b cap esz, G.M i h = some ⟨some b, cap, esz⟩ ∧ ∀ c e, w.heap[b]? = some (.cells c e (0, 0)) → ∀ (j : Nat) (x : AVal), cs[j]? = some x → Rep G true x (c.getD j undef)) : ObjOk G' w i h (rfO id g l o) := by
  cases o with
  | box cs =>
    obtain ⟨b, cap, esz, h1, h2, c, e, h3, h4, h5, _⟩ := ho
    obtain ⟨b', cap', esz', k1, k2⟩ := hb cs rfl
    have := hm.M _ _ _ k1
    rw [h1] at this
    simp only [Option.some.injEq, Hd.mk.injEq] at this
    obtain ⟨rfl, _, _⟩ := this
    refine ⟨b, cap, esz, h1, h2, c, e, h3, by simp [h4], fun j x hx => ?_, fun j x hx => ?_⟩
    · rw [List.getElem?_map] at hx
      obtain ⟨y, hy, rfl⟩ := Option.map_eq_some_iff.1 hx
      exact rf1ucell (h5 j y hy)
    · rw [List.getElem?_map] at hx
      obtain ⟨y, hy, rfl⟩ := Option.map_eq_some_iff.1 hx
      exact (k2 c e h3 j y hy).rf1 hm hR
  | _ => exact ho
end

/-- The store, and the temporaries, when the row 'id' is given away. -/
theorem all_freeze {G : Gh} {w : World} {sto : Sto} {id g esz : Nat} {l : List (List AVal)} (hw : WOk G w) (hs : StoOk G w sto) (hget : sget sto id = some (g, .row esz l)) :
    ∃ G', Ext G G' ∧ WOk G' w ∧ StoOk G' w (rfS id g l (sdel sto id)) ∧ ∀ (x : AVal) (v : Value), Rep G true x v → Rep G' true (rf id g l x) v := by
  obtain ⟨G', hext, hw', hs', hR⟩ := sto_freeze hw hs hget
  refine ⟨G', hext, hw', ⟨fun i h o ho => ?_, fun i i' g1 g2 o o' h h' hne => ?_⟩, fun x v h => h.rf hext.toMono hR⟩
  · rw [sget_rfS] at ho
    obtain ⟨⟨h', o'⟩, ho', he⟩ := Option.map_eq_some_iff.1 ho
    simp only [Prod.mk.injEq] at he
    obtain ⟨rfl, rfl⟩ := he
    refine (hs'.obj i h' o' ho').rfO hext.toMono hR fun cs hcs => ?_
    subst hcs
    rw [sget_sdel] at ho'
    split at ho'
    · cases ho'
    · obtain ⟨b, cap, esz, h1, _, c, e, h3, _, _, h6⟩ := hs.obj i h' _ ho'
      refine ⟨b, cap, esz, h1, fun c' e' hc' j x hx => ?_⟩
      rw [h3] at hc'
      simp only [Option.some.injEq, Obj.cells.injEq] at hc'
      obtain ⟨rfl, _⟩ := hc'
      exact h6 j x hx
  · rw [sget_rfS] at h h'
    obtain ⟨⟨k, p⟩, hp, he⟩ := Option.map_eq_some_iff.1 h
    obtain ⟨⟨k', p'⟩, hp', he'⟩ := Option.map_eq_some_iff.1 h'
    simp only [Prod.mk.injEq] at he he'
    obtain ⟨rfl, _⟩ := he
    obtain ⟨rfl, _⟩ := he'
    exact hs'.apart i i' k k' p p' hp hp' hne

/-- What an operation's result is, when it is given away at once. -/
def frq (b : Bool) (r : AVal) (s : Sto) (T : AVal → Sto → Prop) : Prop :=
  match b, r with
  | true, .osl id g 0 n =>
    match sget s id with
    | some (g', .row _ l) => g' = g ∧ n = l.length ∧ T (.sl true false l) (sdel s id)
    | _ => False
  | _, r => T r s

theorem frq_sound {G : Gh} {w : World} {r : AVal} {v : Value} {sto : Sto} {T : AVal → Sto → Prop} {b : Bool} (hw : WOk G w) (hs : StoOk G w sto) (hr : Rep G true r v) (h : frq b r sto T) :
    ∃ G' r' s', Ext G G' ∧ WOk G' w ∧ StoOk G' w s' ∧ Rep G' true r' v ∧ T r' s' := by
  unfold frq at h
  split at h
  · split at h
    · rename_i g' esz l hget
      obtain ⟨rfl, rfl, hT⟩ := h
      obtain ⟨G', hext, hw', hs', hR⟩ := sto_freeze hw hs hget
      have := hR 0 l.length v (by omega) hr
      simp only [List.drop_zero, List.take_length] at this
      exact ⟨G', _, _, hext, hw', hs', this, hT⟩
    · exact h.elim
  · exact ⟨G, r, sto, .refl G, hw, hs, hr, h⟩
end Go.Rad
