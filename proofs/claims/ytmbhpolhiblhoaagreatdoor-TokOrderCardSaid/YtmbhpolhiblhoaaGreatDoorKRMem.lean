/- A part of the proof. -/
import Derived.Test.YtmbhpolhiblhoaaGreatDoorKRGlob
import Derived.Laws.OwnMore
import Derived.Laws.StructEq
set_option linter.all false
namespace Go.Rad
open Go
def j9 (G : Gh) (id : Nat) (hd : Hd) : Gh := { G with M := fun i g => if i = id ∧ g = G.N then some hd else G.M i g, N := G.N + 1 }
theorem Kept.alloc (w : World) (c : Array Value) (e : TypeId) : Kept w (w.alloc (.cells c e)) := ⟨rfl, rfl⟩
theorem Kept.allocMap (w : World) (me : Array MapEntry) (cl : Nat) : Kept w (w.alloc (.map me cl)) := ⟨rfl, rfl⟩
theorem Kept.setRow (w : World) (b : Nat) (cs : Array Value) : Kept w (w.setRow b cs) := ⟨rfl, rfl⟩
theorem Kept.draw (w : World) (n : Nat) : Kept w { w with drawn := n } := ⟨rfl, rfl⟩
theorem Kept.drew (w : World) : Kept w w.drew := ⟨rfl, rfl⟩
theorem Kept.AL (w : World) (b : Nat) (me : Array MapEntry) (cl : Nat) : Kept w { w with heap := w.heap.setIfInBounds b (.map me cl) } := ⟨rfl, rfl⟩
theorem bU (G : Gh) (id : Nat) (hd : Hd) : (j9 G id hd).M id G.N = some hd := by simp [j9]
theorem eR {G : Gh} {w : World} (hw : WOk G w) (id : Nat) (hd : Hd) : Ext G (j9 G id hd) where
 F _ _ h := h
 S _ h := h
 S' _ h := .inl h
 L _ := Iff.rfl
 M i g h x := by
  simp only [j9]
  by_cases e : i = id ∧ g = G.N
  ·rw [e.1, e.2, hw.N id G.N (Nat.le_refl _)] at x; cases x
  ·rw [if_neg e]; exact x
 N := Nat.le_succ _
 W0 := rfl
theorem jQ.old {w w' : World} {b : Nat} {c : Array Value} {e : TypeId} (h : w'.heap[b]? = w.heap[b]?) (ha : jQ w b c e) : jQ w' b c e := by
 obtain ⟨fr, h1, h2⟩ := ha
 exact ⟨fr, h.trans h1, h2⟩
theorem jQ.zero {w : World} {b : Nat} {c : Array Value} {e : TypeId} (h : w.heap[b]? = some (.cells c e (0, 0))) : jQ w b c e := ⟨_, h, .inl rfl⟩
theorem bW.mono {G G' : Gh} {w w' : World} {id g : Nat} {o : bc} (hm : uh G G') (hF : ∀ b, au G id g = some b → G'.F b = none)
  (hb : ∀ b, au G id g = some b → w'.heap[b]? = w.heap[b]?) (h : bW G w id g o) : bW G' w' id g o := by
 cases o with
 | row esz l =>
  obtain ⟨ob, cap, h1, h2, h3, h4, h5, h6, h7, h8⟩ := h
  refine ⟨ob, cap, hm.M _ _ _ h1, h2, h3, h4, h5, h6, h7, fun b hob => ?_⟩
  obtain ⟨a1, a2, c, e, a3, a4, a5⟩ := h8 b hob
  have hbk : au G id g = some b := by simp [au, h1, hob]
  exact ⟨hF b hbk, a2, c, e, a3.old (hb b hbk), a4, fun i j x y hx hy => (a5 i j x y hx hy).mono hm⟩
 | box cs =>
  obtain ⟨b, cap, esz, h1, _, c, e, h3, h4, h5, h6⟩ := h
  have hbk : au G id g = some b := by simp [au, h1]
  exact ⟨b, cap, esz, hm.M _ _ _ h1, hF b hbk, c, e, (hb b hbk).trans h3, h4, h5, fun j x hx => (h6 j x hx).mono hm⟩
 | mp es =>
  obtain ⟨b, cap, esz, h1, _, me, cl, h3, h4, h4', h5⟩ := h
  have hbk : au G id g = some b := by simp [au, h1]
  refine ⟨b, cap, esz, hm.M _ _ _ h1, hF b hbk, me, cl, (hb b hbk).trans h3, h4, h4', fun j x hx => ?_⟩
  obtain ⟨m, a1, a2, a3, a4⟩ := h5 j x hx
  exact ⟨m, a1, a2, a3, a4.mono hm⟩
 | mpi es =>
  obtain ⟨b, cap, esz, h1, _, me, cl, h3, h4, h4', h5⟩ := h
  have hbk : au G id g = some b := by simp [au, h1]
  refine ⟨b, cap, esz, hm.M _ _ _ h1, hF b hbk, me, cl, (hb b hbk).trans h3, h4, h4', fun j x hx => ?_⟩
  obtain ⟨m, a1, a2, a3, a4⟩ := h5 j x hx
  exact ⟨m, a1, a2, a3, a4.mono hm⟩
theorem bW.blk {G : Gh} {w : World} {id g : Nat} {o : bc} (h : bW G w id g o) (hw : WOk G w) (b : Nat) (hb : au G id g = some b) :
  G.F b = none ∧ b < w.heap.size := by
 have hlt : b < w.heap.size := by
  unfold au at hb
  cases hM : G.M id g with
  | none => rw [hM] at hb; cases hb
  | some hd => rw [hM] at hb; exact hw.M _ _ _ _ hM hb
 refine ⟨?_, hlt⟩
 cases o with
 | row esz l =>
  obtain ⟨ob, cap, h1, _, _, _, _, _, _, h8⟩ := h
  exact (h8 b (by simpa [au, h1] using hb)).1
 | box cs =>
  obtain ⟨b', cap, esz, h1, h2, _⟩ := h
  have : b' = b := by simpa [au, h1] using hb
  exact this ▸ h2
 | mp es =>
  obtain ⟨b', cap, esz, h1, h2, _⟩ := h
  have : b' = b := by simpa [au, h1] using hb
  exact this ▸ h2
 | mpi es =>
  obtain ⟨b', cap, esz, h1, h2, _⟩ := h
  have : b' = b := by simpa [au, h1] using hb
  exact this ▸ h2
theorem bW.M {G : Gh} {w : World} {id g : Nat} {o : bc} (h : bW G w id g o) : ∃ hd, G.M id g = some hd := by
 cases o with
 | row esz l => obtain ⟨ob, cap, h1, _⟩ := h; exact ⟨_, h1⟩
 | box cs => obtain ⟨b', cap, esz, h1, h2, _⟩ := h; exact ⟨_, h1⟩
 | mp es => obtain ⟨b', cap, esz, h1, h2, _⟩ := h; exact ⟨_, h1⟩
 | mpi es => obtain ⟨b', cap, esz, h1, h2, _⟩ := h; exact ⟨_, h1⟩
def ir (G : Gh) (sto : Sto) (id : Nat) : Option Nat := (ak sto id).bind fun x => au G id x.1
theorem dV {G : Gh} {w w' : World} {sto : Sto} {id : Nat} {o : bc} {hd : Hd} (hk : Kept w w') (hw : WOk G w) (hs : an G w sto)
  (hsize : w.heap.size ≤ w'.heap.size)
  (hb : ∀ b, b < w.heap.size → ir G sto id ≠ some b → w'.heap[b]? = w.heap[b]?)
  (hnew : ∀ b, hd.blk = some b → b < w'.heap.size ∧ (w.heap.size ≤ b ∨ ir G sto id = some b))
  (ho : bW (j9 G id hd) w' id G.N o) :
  Ext G (j9 G id hd) ∧ WOk (j9 G id hd) w' ∧ an (j9 G id hd) w' (aF sto id (G.N, o)) := by
 have hext := eR hw id hd
 have hlive : ∀ i g o, ak sto i = some (g, o) → i ≠ id → ∀ b, au G i g = some b → ir G sto id ≠ some b := by
  intro i g o hi hne b hbk he
  unfold ir at he
  cases hx : ak sto id with
  | none => rw [hx] at he; cases he
  | some x =>
   rw [hx] at he
   exact hs.apart i id g x.1 o x.2 hi hx hne b hbk he
 have hblk : ∀ i g o, ak sto i = some (g, o) → au (j9 G id hd) i g = au G i g := by
  intro i g o hi
  obtain ⟨h0, hM⟩ := (hs.obj i g o hi).M
  simp only [au, hM, hext.M i g h0 hM]
 refine ⟨hext, ⟨hw.K.trans hk, ?_, ?_, ?_, fun g l h => (hw.T g l h).mono hext.toMono⟩, ⟨?_, ?_⟩⟩
 ·intro b x hx
  have hold := hw.F b x hx
  have hlt : b < w.heap.size := (Array.getElem?_eq_some_iff.1 hold).1
  rw [hb b hlt ?_]
  ·exact hold
  ·intro he
   unfold ir at he
   cases hx' : ak sto id with
   | none => rw [hx'] at he; cases he
   | some y =>
    rw [hx'] at he
    have := ((hs.obj id y.1 y.2 hx').blk hw b he).1
    have hx2 : G.F b = some x := hx
    rw [this] at hx2; cases hx2
 ·intro i g h b hM hbk
  simp only [j9] at hM
  split at hM
  ·cases hM; exact (hnew b hbk).1
  ·exact Nat.lt_of_lt_of_le (hw.M _ _ _ _ hM hbk) hsize
 ·intro i g hg
  have hg' : G.N + 1 ≤ g := hg
  simp only [j9]
  rw [if_neg (by omega)]
  exact hw.N i g (by omega)
 ·intro i g x hx
  rw [bD] at hx
  by_cases he : id = i
  ·subst he
   rw [if_pos rfl] at hx
   simp only [Option.some.injEq, Prod.mk.injEq] at hx
   obtain ⟨rfl, rfl⟩ := hx
   exact ho
  ·rw [if_neg he] at hx
   have hob := hs.obj i g x hx
   refine hob.mono hext.toMono (fun b hbk => (hob.blk hw b hbk).1) (fun b hbk => ?_)
   exact hb b (hob.blk hw b hbk).2 (hlive i g x hx (Ne.symm he) b hbk)
 ·intro i i' g g' x x' hx hx' hne b hbk
  rw [bD] at hx hx'
  by_cases he : id = i
  ·subst he
   rw [if_pos rfl] at hx
   simp only [Option.some.injEq, Prod.mk.injEq] at hx
   obtain ⟨rfl, rfl⟩ := hx
   rw [if_neg hne] at hx'
   rw [hblk _ _ _ hx']
   intro hbk'
   have h1 : hd.blk = some b := by simpa [au, bU] using hbk
   have h2 := (hs.obj _ _ _ hx').blk hw b hbk'
   rcases (hnew b h1).2 with h3 | h3
   ·omega
   ·exact hlive i' g' x' hx' (Ne.symm hne) b hbk' h3
  ·rw [if_neg he] at hx
   rw [hblk _ _ _ hx] at hbk
   by_cases he' : id = i'
   ·subst he'
    rw [if_pos rfl] at hx'
    simp only [Option.some.injEq, Prod.mk.injEq] at hx'
    obtain ⟨rfl, rfl⟩ := hx'
    intro hbk'
    have h1 : hd.blk = some b := by simpa [au, bU] using hbk'
    have h2 := (hs.obj _ _ _ hx).blk hw b hbk
    rcases (hnew b h1).2 with h3 | h3
    ·omega
    ·exact hlive i g x hx hne b hbk h3
   ·rw [if_neg he'] at hx'
    rw [hblk _ _ _ hx']
    exact hs.apart i i' g g' x x' hx hx' hne b hbk
theorem eE {G : Gh} {w w' : World} {sto : Sto} {id g : Nat} {o o' : bc} (hk : Kept w w') (hw : WOk G w) (hs : an G w sto) (hget : ak sto id = some (g, o))
  (hsize : w.heap.size ≤ w'.heap.size) (hb : ∀ b, b < w.heap.size → au G id g ≠ some b → w'.heap[b]? = w.heap[b]?) (ho : bW G w' id g o') :
  WOk G w' ∧ an G w' (aF sto id (g, o')) := by
 have hob := hs.obj id g o hget
 have hother : ∀ i g' x, ak sto i = some (g', x) → id ≠ i → ∀ b, au G i g' = some b → w'.heap[b]? = w.heap[b]? := by
  intro i g' x hx hne b hbk
  refine hb b ((hs.obj i g' x hx).blk hw b hbk).2 ?_
  intro he
  exact hs.apart id i g g' o x hget hx hne b he hbk
 refine ⟨⟨hw.K.trans hk, ?_, ?_, hw.N, hw.T⟩, ⟨?_, ?_⟩⟩
 ·intro b x hx
  have hold := hw.F b x hx
  rw [hb b (Array.getElem?_eq_some_iff.1 hold).1]
  ·exact hold
  ·intro he; rw [(hob.blk hw b he).1] at hx; cases hx
 ·exact fun i g h b hM hbk => Nat.lt_of_lt_of_le (hw.M _ _ _ _ hM hbk) hsize
 ·intro i g' x hx
  rw [bD] at hx
  by_cases he : id = i
  ·subst he
   rw [if_pos rfl] at hx
   simp only [Option.some.injEq, Prod.mk.injEq] at hx
   obtain ⟨rfl, rfl⟩ := hx
   exact ho
  ·rw [if_neg he] at hx
   exact (hs.obj i g' x hx).mono (Ext.refl G).toMono (fun b hbk => ((hs.obj i g' x hx).blk hw b hbk).1) (hother i g' x hx he)
 ·intro i i' g1 g2 x x' hx hx' hne b hbk
  rw [bD] at hx hx'
  have h1 : ∃ y, ak sto i = some (g1, y) := by
   by_cases he : id = i
   ·subst he; rw [if_pos rfl] at hx; simp only [Option.some.injEq, Prod.mk.injEq] at hx; exact ⟨o, by rw [← hx.1]; exact hget⟩
   ·rw [if_neg he] at hx; exact ⟨x, hx⟩
  have h2 : ∃ y, ak sto i' = some (g2, y) := by
   by_cases he : id = i'
   ·subst he; rw [if_pos rfl] at hx'; simp only [Option.some.injEq, Prod.mk.injEq] at hx'; exact ⟨o, by rw [← hx'.1]; exact hget⟩
   ·rw [if_neg he] at hx'; exact ⟨x', hx'⟩
  obtain ⟨y, h1⟩ := h1
  obtain ⟨y', h2⟩ := h2
  exact hs.apart i i' g1 g2 y y' h1 h2 hne b hbk
theorem iL {G : Gh} {w w' : World} {sto : Sto} (hk : Kept w w') (hw : WOk G w) (hs : an G w sto) (hsize : w.heap.size ≤ w'.heap.size)
  (hb : ∀ b, b < w.heap.size → w'.heap[b]? = w.heap[b]?) : WOk G w' ∧ an G w' sto := by
 refine ⟨⟨hw.K.trans hk, fun b x hx => ?_, fun i g h b hM hbk => Nat.lt_of_lt_of_le (hw.M _ _ _ _ hM hbk) hsize, hw.N, hw.T⟩, ⟨fun id g o h => ?_, hs.apart⟩⟩
 ·have hold := hw.F b x hx
  rw [hb b (Array.getElem?_eq_some_iff.1 hold).1]; exact hold
 ·have hob := hs.obj id g o h
  exact hob.mono (Ext.refl G).toMono (fun b hbk => (hob.blk hw b hbk).1) (fun b hbk => hb b (hob.blk hw b hbk).2)
theorem wE {G : Gh} {w : World} {sto : Sto} (hs : an G w sto) (id : Nat) : an G w (ca sto id) := by
 refine ⟨fun i g o h => ?_, fun i i' g g' o o' h h' => ?_⟩
 ·rw [dq] at h
  split at h
  ·cases h
  ·exact hs.obj i g o h
 ·rw [dq] at h h'
  split at h
  ·cases h
  ·split at h'
   ·cases h'
   ·exact hs.apart i i' g g' o o' h h'
theorem fi.mono {G G' : Gh} {tm : Tm} {a : Array Value} (h : fi G tm a) (hm : uh G G') : fi G' tm a := fun t => (h t).mono hm
theorem fi.put {G : Gh} {tm : Tm} {a : Array Value} (h : fi G tm a) {d : Nat} {r : aa} {v : Value} (hd : d < a.size) (hr : Rep G true r v) :
  fi G ((d, r) :: tm) (a.setIfInBounds d v) := by
 intro t
 simp only [lk]
 by_cases e : d = t
 ·subst e
  rw [if_pos rfl]
  have : (a.setIfInBounds d v).getD d undef = v := by simp [Array.getD, hd]
  rw [this]; exact hr
 ·rw [if_neg e]
  have : (a.setIfInBounds d v).getD t undef = a.getD t undef := by
   simp only [Array.getD_eq_getD_getElem?]
   rw [Array.getElem?_setIfInBounds_ne e]
  rw [this]; exact h t
end Go.Rad
namespace Go.Rad
open Go
variable {P : Program} {L : Lay}
def aG (P : Program) (s : Sem Value) (G : Gh) (w : World) (T : aa → Sto → Prop) : Prop :=
 ∃ G' w' v r sto', s.run P w = .ok v w' ∧ Ext G G' ∧ WOk G' w' ∧ an G' w' sto' ∧ Rep G' true r v ∧ T r sto'
def vC (P : Program) (s : Sem Unit) (G : Gh) (w : World) (T : Sto → Prop) : Prop :=
 ∃ w' sto', s.run P w = .ok () w' ∧ WOk G w' ∧ an G w' sto' ∧ T sto'
theorem aG.pure {s : Sem Value} {G : Gh} {w : World} {sto : Sto} {T : aa → Sto → Prop} {v : Value} {r : aa} (hw : WOk G w) (hs : an G w sto)
  (h : s.run P w = .ok v w) (hr : Rep G true r v) (hT : T r sto) : aG P s G w T := ⟨G, w, v, r, sto, h, .refl G, hw, hs, hr, hT⟩
theorem aV (b off n : Nat) : (⟨b, off, none⟩ : Addr).add n = ⟨b, off + n, none⟩ := by unfold Addr.add; split <;> simp_all
theorem p8 {t : Nat} {i : TypeInfo} {d : TypeDesc} {z : Value} (k : cI P L t i d z) (w : World) : (isAgg t).run P w = .ok (L t).ag w := by
 unfold isAgg
 rw [Sem.run_bind, run_underlying k.und w, ← k.agg]
 simp only [Result.andThen_ok]
 cases d <;> rfl
theorem aL {t : Nat} {i : TypeInfo} {d : TypeDesc} {z : Value} (k : cI P L t i d z) (w : World) : (sizeOf t).run P w = .ok (L t).sz w := by
 simp [sizeOf, typeInfo, k.info, k.size]
def ldv (ti : TI) (c : Array Value) (off : Nat) : Value := if ti.ag then .agg (c.extract off (off + ti.sz)) else c.getD off undef
theorem eB {t : Nat} {i : TypeInfo} {d : TypeDesc} {z : Value} (k : cI P L t i d z) {w : World} {b off : Nat} {c : Array Value} {e : TypeId} {fr : Nat × Nat}
  (hb : w.heap[b]? = some (.cells c e fr)) (hsz : 0 < (L t).sz) (hfit : off + (L t).sz ≤ c.size) :
  (loadVar t ⟨b, off, none⟩).run P w = .ok (ldv (L t) c off) w := by
 unfold loadVar
 rw [Sem.run_bind, p8 k w]
 simp only [Result.andThen_ok]
 unfold ldv
 cases hag : (L t).ag with
 | true =>
  have hl : (loadCells ⟨b, off, none⟩ (c.extract off (off + (L t).sz)).toList.length).run P w = .ok (c.extract off (off + (L t).sz)).toList.toArray w :=
   run_loadCells_list w _ _ (fun j v hv => by
    rw [aV, cell_of_row w b (off + j) c e fr hb]
    simp only [Array.getElem?_toList, Array.getElem?_extract] at hv
    split at hv
    ·exact hv
    ·cases hv)
  have hlen : (c.extract off (off + (L t).sz)).toList.length = (L t).sz := by simp; omega
  rw [hlen, Array.toArray_toList] at hl
  simp only [if_true, Sem.run_bind, aL k w, Result.andThen_ok, hl, Sem.run_pure]
 | false =>
  have hc : w.cell? ⟨b, off, none⟩ = some (c.getD off undef) := by
   rw [cell_of_row w b off c e fr hb]
   have : off < c.size := by omega
   simp [this]
  simp [hc]
theorem iW {G : Gh} {o : Bool} {ti : TI} {cs : List aa} {c : Array Value} {off : Nat} (hsz : 0 < ti.sz) (hl : ti.sz ≤ cs.length) (hfit : off + ti.sz ≤ c.size)
  (h : ∀ (j : Nat) (x : aa), cs[j]? = some x → x.ar = true ∧ Rep G o x (c.getD (off + j) undef)) : Rep G o (mkv ti cs) (ldv ti c off) := by
 unfold mkv ldv
 cases hag : ti.ag with
 | true =>
  simp only [if_true]
  refine .agg (by simp; omega) (fun j x hx => ?_) (fun j x hx => ?_)
  ·rw [List.getElem?_take] at hx
   split at hx
   ·exact (h j x hx).1
   ·cases hx
  ·rw [List.getElem?_take] at hx
   split at hx
   ·rename_i hj
    have := (h j x hx).2
    have he : (c.extract off (off + ti.sz)).getD j undef = c.getD (off + j) undef := by
     simp only [Array.getD_eq_getD_getElem?, Array.getElem?_extract]
     rw [if_pos (by omega)]
    rw [he]; exact this
   ·cases hx
 | false =>
  cases cs with
  | nil => simp at hl; omega
  | cons x xs => simpa using (h 0 x rfl).2
theorem Rep.gj {G : Gh} {id g off : Nat} {v : Value} (h : Rep G true (.bx id g off) v) : ∃ b cap esz, G.M id g = some ⟨some b, cap, esz⟩ ∧ v = .pointer (some ⟨b, off, none⟩) := by
 cases h with | bx a => exact ⟨_, _, _, a, rfl⟩
theorem Rep.gz {G : Gh} {id g i off : Nat} {v : Value} (h : Rep G true (.loc id g i off) v) :
  ∃ b cap esz, G.M id g = some ⟨some b, cap, esz⟩ ∧ v = .pointer (some ⟨b, i * esz + off, none⟩) := by
 cases h with | loc a => exact ⟨_, _, _, a, rfl⟩
theorem Rep.eU {G : Gh} {o q : Bool} {cs : List aa} {v : Value} (h : Rep G o (.ref q cs) v) :
  ∃ b off c e fr, v = .pointer (some ⟨b, off, none⟩) ∧ G.ok q b ∧ G.F b = some (.cells c e fr) ∧ off + cs.length ≤ c.size ∧
    ∀ (j : Nat) (x : aa), cs[j]? = some x → x.ar = true ∧ Rep G false x (c.getD (off + j) Go.undef) := by
 cases h with | ref a b c d e => exact ⟨_, _, _, _, _, rfl, a, b, c, fun j x hx => ⟨d j x hx, e j x hx⟩⟩
theorem rm {G : Gh} {w : World} {id g esz : Nat} {l : List (List aa)} (h : bW G w id g (.row esz l)) {b cap e' : Nat} (hM : G.M id g = some ⟨some b, cap, e'⟩) :
  e' = esz ∧ l.length ≤ cap ∧ G.F b = none ∧ ∃ c e, jQ w b c e ∧ c.size = cap * esz ∧ (∀ (i : Nat) (x : List aa), l[i]? = some x → x.length = esz) ∧
   ∀ (i j : Nat) (x : List aa) (y : aa), l[i]? = some x → x[j]? = some y → y.ar = true ∧ Rep G false y (c.getD (i * esz + j) undef) := by
 obtain ⟨ob, cap', h1, h2, h3, h4, h5, h6, h7, h8⟩ := h
 rw [hM] at h1
 simp only [Option.some.injEq, Hd.mk.injEq] at h1
 obtain ⟨rfl, rfl, rfl⟩ := h1
 obtain ⟨a1, a2, c, e, a3, a4, a5⟩ := h8 b rfl
 exact ⟨rfl, h2, a1, c, e, a3, a4, h5, fun i j x y hx hy => ⟨h6 i j x y hx hy, a5 i j x y hx hy⟩⟩
theorem yX {G : Gh} {w : World} {id g : Nat} {cs : List aa} (h : bW G w id g (.box cs)) {b cap e' : Nat} (hM : G.M id g = some ⟨some b, cap, e'⟩) :
  G.F b = none ∧ ∃ c e, w.heap[b]? = some (.cells c e (0, 0)) ∧ c.size = cs.length ∧ ∀ (j : Nat) (x : aa), cs[j]? = some x → x.ar = true ∧ Rep G true x (c.getD j undef) := by
 obtain ⟨b', cap', esz, h1, h2, c, e, h3, h4, h5, h6⟩ := h
 rw [hM] at h1
 simp only [Option.some.injEq, Hd.mk.injEq] at h1
 obtain ⟨rfl, _, _⟩ := h1
 exact ⟨h2, c, e, h3, h4, fun j x hx => ⟨h5 j x hx, h6 j x hx⟩⟩
theorem dB {i n cap esz : Nat} (h : i < n) (hn : n ≤ cap) : i * esz + esz ≤ cap * esz := by
 have : (i + 1) * esz ≤ cap * esz := Nat.mul_le_mul_right _ (by omega)
 rwa [Nat.add_mul, Nat.one_mul] at this
theorem pL (hL : LOk P L) {t : Nat} (ht : (L t).ty ≠ .other) {x : aa} {v : Value} {G : Gh} {w : World} {sto : Sto} {T : aa → Prop} (hw : WOk G w) (hs : an G w sto)
  (hx : Rep G true x v) (h : bM L t x sto T) : ∃ ad u r, v = .pointer (some ad) ∧ (loadVar t ad).run P w = .ok u w ∧ Rep G true r u ∧ T r := by
 obtain ⟨i, d, z, k⟩ := hL.known ht
 unfold bM at h
 split at h
 ·rename_i id g off
  obtain ⟨b, cap, esz, hM, rfl⟩ := hx.gj
  split at h
  ·rename_i g' cs hget
   obtain ⟨rfl, h1, h2, h3⟩ := h
   obtain ⟨_, c, e, hb, hc, hj⟩ := yX (hs.obj _ _ _ hget) hM
   have hfit : off + (L t).sz ≤ c.size := by omega
   refine ⟨_, _, _, rfl, eB k hb h2 hfit, (iW h2 (by simp; omega) hfit fun j x hx => ?_), h3⟩
   exact hj (off + j) x (by simpa using hx)
  ·exact h.elim
 ·rename_i id g i' off
  obtain ⟨b, cap, esz', hM, rfl⟩ := hx.gz
  split at h
  ·rename_i g' esz l hget
   obtain ⟨rfl, h1, h2, h3, h4⟩ := h
   obtain ⟨he, hcap, _, c, e, ⟨fr, hb, _⟩, hc, hlen, hj⟩ := rm (hs.obj _ _ _ hget) hM
   subst he
   obtain ⟨y, hy⟩ : ∃ y, l[i']? = some y := ⟨l[i'], by simp [h1]⟩
   have hyl := hlen i' y hy
   have hroom := dB (esz := esz') h1 hcap
   have hfit : i' * esz' + off + (L t).sz ≤ c.size := by omega
   refine ⟨_, _, _, rfl, eB k hb h3 hfit, ((iW (o := false) h3 (by simp; omega) hfit fun j x hx => ?_).up), h4 y hy⟩
   have := hj i' (off + j) y x hy (by simpa using hx)
   rwa [← Nat.add_assoc] at this
  ·exact h.elim
 ·rename_i q cs
  obtain ⟨h1, h2, h3⟩ := h
  obtain ⟨b, off, c, e, fr, rfl, _, hF, hfit, hj⟩ := (Rep.eU hx)
  have hb := hw.F _ _ hF
  have hfit' : off + (L t).sz ≤ c.size := by omega
  exact ⟨_, _, _, rfl, eB k hb h2 hfit', (iW (o := false) h2 h1 hfit' hj).up, h3⟩
 ·exact h.elim
theorem uE (hL : LOk P L) {t : Nat} (ht : (L t).ty ≠ .other) {x : aa} {v : Value} {G : Gh} {w : World} {sto : Sto} {T : aa → Prop} (hw : WOk G w) (hs : an G w sto)
  (hx : Rep G true x v) (h : bM L t x sto T) : aG P (Instr.loadAt t v) G w fun r s => T r ∧ s = sto := by
 obtain ⟨ad, u, r, rfl, h1, h2, h3⟩ := pL hL ht hw hs hx h
 exact aG.pure hw hs (by simp [Instr.loadAt, Instr.sureAddr, h1]) h2 ⟨h3, rfl⟩
theorem fX {G : Gh} {o : Bool} {x : aa} {v : Value} (hx : Rep G o x v) (hwhole : x.aB = true) :
  v.cells.size = (cellsOf x).length ∧ ∀ (j : Nat) (y : aa), (cellsOf x)[j]? = some y → y.ar = true ∧ ∃ u, v.cells.toList[j]? = some u ∧ Rep G o y u := by
 by_cases hc : x.ar = true
 ·have hv := hx.kl hc
  have e1 : cellsOf x = [x] := by cases x <;> first | rfl | simp [aa.ar] at hc
  have e2 : v.cells = #[v] := by cases v <;> first | rfl | simp [Value.oneCell'] at hv
  rw [e1, e2]
  refine ⟨rfl, fun j y hy => ?_⟩
  cases j with
  | zero => simp at hy; subst hy; exact ⟨hc, v, rfl, hx⟩
  | succ j => simp at hy
 ·cases x with
  | agg cs =>
   cases hx with
   | @agg _ _ c a b d =>
    refine ⟨a, fun j y hy => ⟨b j y hy, c.getD j undef, ?_, d j y hy⟩⟩
    have hj : j < c.size := by
     rw [a]
     rcases Nat.lt_or_ge j cs.length with h | h
     ·exact h
     ·simp only [cellsOf] at hy; rw [List.getElem?_eq_none h] at hy; cases hy
    simp [Value.cells, hj]
  | _ => first | exact absurd rfl hc | (simp [aa.aB, aa.ar] at hwhole)
theorem oU {G : Gh} {o : Bool} {x : aa} {v : Value} (hx : Rep G o x v) (hwhole : x.aB = true) : ∀ u ∈ v.cells.toList, u.oneCell' = true := by
 intro u hu
 obtain ⟨h1, h2⟩ := fX hx hwhole
 obtain ⟨j, hj, rfl⟩ := List.getElem_of_mem hu
 have hj' : j < (cellsOf x).length := by rw [← h1]; simpa using hj
 obtain ⟨hc, u', hu', hr⟩ := h2 j (cellsOf x)[j] (by simp [hj'])
 have : u' = v.cells.toList[j] := by
  rw [List.getElem?_eq_getElem hj] at hu'
  exact (Option.some.inj hu').symm
 rw [← this]
 exact hr.kl hc
theorem dO (cs : List aa) (off : Nat) (vs : List aa) (h : off + vs.length ≤ cs.length) (j : Nat) :
  (bL cs off vs)[j]? = if off ≤ j ∧ j < off + vs.length then vs[j - off]? else cs[j]? := by
 unfold bL
 simp only [List.append_assoc, List.getElem?_append, List.getElem?_take, List.length_take, List.getElem?_drop]
 have hm : min off cs.length = off := by omega
 rw [hm]
 by_cases h1 : j < off
 ·rw [if_pos h1, if_pos h1, if_neg (by omega)]
 ·rw [if_neg h1]
  by_cases h2 : j - off < vs.length
  ·rw [if_pos h2, if_pos (by omega)]
  ·rw [if_neg h2, if_neg (by omega)]
   congr 1; omega
theorem dU (cs : List aa) (off : Nat) (vs : List aa) (h : off + vs.length ≤ cs.length) : (bL cs off vs).length = cs.length := by
 unfold bL; simp; omega
theorem ec (c : Array Value) (off : Nat) (vs : List Value) (h : off + vs.length ≤ c.size) : ((c.toList.take off ++ vs ++ c.toList.drop (off + vs.length)).toArray).size = c.size := by
 simp; omega
theorem iB (c : Array Value) (off : Nat) (vs : List Value) (h : off + vs.length ≤ c.size) (j : Nat) :
  ((c.toList.take off ++ vs ++ c.toList.drop (off + vs.length)).toArray).getD j undef = if off ≤ j ∧ j < off + vs.length then vs.getD (j - off) undef else c.getD j undef := by
 simp only [Array.getD_eq_getD_getElem?, List.getElem?_toArray, List.append_assoc, List.getElem?_append, List.getElem?_take, List.length_take, List.getElem?_drop, Array.length_toList,
  List.getD_eq_getElem?_getD, Array.getElem?_toList]
 have hm : min off c.size = off := by omega
 rw [hm]
 by_cases h1 : j < off
 ·rw [if_pos h1, if_pos h1, if_neg (by omega)]
 ·rw [if_neg h1]
  by_cases h2 : j - off < vs.length
  ·rw [if_pos h2, if_pos (by omega)]
  ·rw [if_neg h2, if_neg (by omega)]
   congr 2; omega
theorem fh (P : Program) (g o : Nat) (t : TypeId) (fz : Nat × Nat) : ∀ (vs : List Value) (i : Nat) (cur : Array Value) (w : World), w.heap[g]? = some (.cells cur t fz) → (fz.2 = 0 ∨ cur.size ≤ fz.1) → o + i + vs.length ≤ cur.size → (∀ v ∈ vs, v.oneCell' = true) →
  (storeCells ⟨g, o, none⟩ vs i).run P w = .ok () (w.setRow g (cur.toList.take (o + i) ++ vs ++ cur.toList.drop (o + i + vs.length)).toArray)
 | [], i, cur, w, hg, _, _, _ => by
  simp only [storeCells, List.append_nil, List.length_nil, Nat.add_zero, List.take_append_drop, Array.toArray_toList]
  rw [setRow_self w g cur t fz hg]
  rfl
 | v :: rest, i, cur, w, hg, hfz, hl, h1 => by
  have hi : o + i < cur.size := by simp at hl; omega
  have hadd : (⟨g, o, none⟩ : Addr).add i = ⟨g, o + i, none⟩ := by unfold Addr.add; split <;> simp_all
  have hcell : w.cell? ⟨g, o + i, none⟩ = some cur[o + i] := by simp [World.cell?, hg, hi]
  have hfro : w.frozen? ⟨g, o + i, none⟩ = false := by
   obtain ⟨lo, hi'⟩ := fz
   simp only at hfz
   simp only [World.frozen?, hg, Bool.and_eq_false_iff, decide_eq_false_iff_not]
   omega
  have hst : (store ((⟨g, o, none⟩ : Addr).add i) v).run P w = .ok () (w.setRow g (cur.setIfInBounds (o + i) v)) := by
   rw [hadd, run_store P w _ v _ (h1 v (by simp)), hcell]
   simp [hfro, setCell_eq_setRow w g (o + i) cur t fz v hg]
  have ih := fh P g o t fz rest (i + 1) (cur.setIfInBounds (o + i) v) (w.setRow g (cur.setIfInBounds (o + i) v)) (setRow_heap w g cur _ t _ hg) (by simpa using hfz) (by simp at hl ⊢; omega) (fun x hx => h1 x (by simp [hx]))
  simp only [storeCells, Sem.run_bind, hst, Result.andThen_ok, ih, setRow_setRow]
  congr 3
  have e := list_seg_step cur.toList (o + i) v rest (by simp at hl ⊢; omega)
  simpa [Array.toList_setIfInBounds, Nat.add_assoc] using e
theorem pf {t : Nat} {i : TypeInfo} {d : TypeDesc} {z : Value} (k : cI P L t i d z) {w : World} {b off : Nat} {c : Array Value} {e : TypeId} {v : Value} {fr : Nat × Nat}
  (hb : w.heap[b]? = some (.cells c e fr)) (hfr : fr.2 = 0 ∨ c.size ≤ fr.1) (hv : v.cells.size = (L t).sz) (hfit : off + (L t).sz ≤ c.size) (h1 : ∀ u ∈ v.cells.toList, u.oneCell' = true) :
  (storeVar t ⟨b, off, none⟩ v).run P w = .ok () (w.setRow b (c.toList.take off ++ v.cells.toList ++ c.toList.drop (off + v.cells.toList.length)).toArray) := by
 have hst := fh P b off e fr v.cells.toList 0 c w hb hfr (by simp; omega) h1
 simp only [Nat.add_zero] at hst
 simp [storeVar, aL k w, hv, hst]
theorem pe {t : Nat} {i : TypeInfo} {d : TypeDesc} {z : Value} (k : cI P L t i d z) {w : World} {b off : Nat} {c : Array Value} {e : TypeId} {v : Value}
  (hb : w.heap[b]? = some (.cells c e (0, 0))) (hv : v.cells.size = (L t).sz) (hfit : off + (L t).sz ≤ c.size) (h1 : ∀ u ∈ v.cells.toList, u.oneCell' = true) :
  (storeVar t ⟨b, off, none⟩ v).run P w = .ok () (w.setRow b (c.toList.take off ++ v.cells.toList ++ c.toList.drop (off + v.cells.toList.length)).toArray) := by
 have hst := run_storeCells_at P b off e v.cells.toList 0 c w hb (by simp; omega) h1
 simp only [Nat.add_zero] at hst
 simp [storeVar, aL k w, hv, hst]
theorem pT {x : aa} : (c8 x).ar = x.ar := by cases x <;> rfl
theorem Rep.c8 {G : Gh} {o : Bool} {x : aa} {v : Value} (h : Rep G o x v) : Rep G o (c8 x) v := by
 cases h with
 | slnil a => exact .slnil fun h => by cases h
 | sl a b c d e f g h i => exact .sl a (fun h => by cases h) c d e f g h i
 | bool => exact .bool
 | int a => exact .int a
 | str a => exact .str a
 | nil => exact .nil
 | ref a b c d e => exact .ref a b c d e
 | fn a b => exact .fn a b
 | nilfn => exact .nilfn
 | nilmap => exact .nilmap
 | agg a b c => exact .agg a b c
 | tup a b => exact .tup a b
 | loc a => exact .loc a
 | bx a => exact .bx a
 | osl a b c d e f => exact .osl a b c d e f
 | map a => exact .map a
 | opt a => exact .opt a
 | undef => exact .undef
theorem Rep.ez {G : Gh} {o : Bool} {x : aa} {v : Value} (h : Rep G o x v) : Rep G o (ez x) v := by
 cases x with
 | agg cs =>
  cases h with
  | agg a b c =>
   refine .agg (by simpa using a) (fun j y hy => ?_) fun j y hy => ?_
   ·rw [List.getElem?_map] at hy
    obtain ⟨x, hx, rfl⟩ := Option.map_eq_some_iff.1 hy
    rw [pT]; exact b j x hx
   ·rw [List.getElem?_map] at hy
    obtain ⟨x, hx, rfl⟩ := Option.map_eq_some_iff.1 hy
    exact (c j x hx).c8
 | _ => exact h.c8
theorem lU (hL : LOk P L) {t : Nat} (ht : (L t).ty ≠ .other) {x y : aa} {v u : Value} {G : Gh} {w : World} {sto : Sto} {T : Sto → Prop} (hw : WOk G w) (hs : an G w sto)
  (hx : Rep G true x v) (hy : Rep G true y u) (h : cH L t x y sto T) : vC P (Instr.storeAt t v u) G w T := by
 obtain ⟨i, d, z, k⟩ := hL.known ht
 obtain ⟨hwhole, hlen, h⟩ := h
 obtain ⟨hc1, hc2⟩ := fX hy hwhole
 have hone := oU hy hwhole
 have hsz : u.cells.size = (L t).sz := by omega
 have hull : u.cells.toList.length = (L t).sz := by simpa using hsz
 split at h
 ·rename_i id g off
  obtain ⟨b, cap, esz, hM, rfl⟩ := hx.gj
  split at h
  ·rename_i g' cs hget
   obtain ⟨rfl, h1, h3⟩ := h
   obtain ⟨hF, c, e, hb, hc, hj⟩ := yX (hs.obj _ _ _ hget) hM
   have hfit : off + (L t).sz ≤ c.size := by omega
   have hrun := pe k hb hsz hfit hone
   have hbk : au G id g' = some b := by simp [au, hM]
   obtain ⟨hw', hs'⟩ := eE (w' := w.setRow b (c.toList.take off ++ u.cells.toList ++ c.toList.drop (off + u.cells.toList.length)).toArray) (o' := .box (bL cs off (cellsOf y))) (Kept.setRow _ _ _) hw hs hget (by simp)
    (fun b' _ hne => setRow_other w b b' _ (fun e => hne (by rw [hbk, e])))
    ⟨b, cap, esz, hM, hF, _, e, setRow_heap w b c _ e _ hb, by
     rw [ec c off _ (by omega), dU cs off _ (by omega)]; exact hc, fun j x hx => by
     rw [dO cs off _ (by omega)] at hx
     split at hx
     ·exact (hc2 _ _ hx).1
     ·exact (hj j x hx).1, fun j x hx => by
     rw [dO cs off _ (by omega)] at hx
     rw [iB c off _ (by omega)]
     split at hx
     ·rename_i hin
      rw [if_pos (by omega)]
      obtain ⟨_, u', hu', hr⟩ := hc2 _ _ hx
      simp only [List.getD_eq_getElem?_getD, hu', Option.getD_some]
      exact hr
     ·rename_i hin
      rw [if_neg (by omega)]
      exact (hj j x hx).2⟩
   exact ⟨_, _, by simp [Instr.storeAt, Instr.sureAddr, hrun], hw', hs', h3⟩
  ·exact h.elim
 ·rename_i id g i' off
  obtain ⟨b, cap, esz', hM, rfl⟩ := hx.gz
  split at h
  ·rename_i g' esz l hget
   obtain ⟨rfl, h1, h2, h3, h4⟩ := h
   have hobj := hs.obj _ _ _ hget
   obtain ⟨he, hcap, hF, c, e, ⟨fr, hb, hfr⟩, hc, hle, hj⟩ := rm hobj hM
   subst he
   obtain ⟨y', hy'⟩ : ∃ y', l[i']? = some y' := ⟨l[i'], by simp [h1]⟩
   have hyl := hle i' y' hy'
   have hroom := dB (esz := esz') h1 hcap
   have hfit : i' * esz' + off + (L t).sz ≤ c.size := by omega
   have hrun := pf k hb hfr hsz hfit hone
   have hbk : au G id g' = some b := by simp [au, hM]
   obtain ⟨ob, cap', hM', a2, a3, a4, a5, a6, a7, a8⟩ := hobj
   have hMM := hM'
   rw [hM] at hM'
   simp only [Option.some.injEq, Hd.mk.injEq, and_true] at hM'
   obtain ⟨rfl, rfl⟩ := hM'
   have hspl : ∀ (n : Nat) (x : List aa), (l.set i' (bL y' off (cellsOf y)))[n]? = some x → x.length = esz' := by
    intro n x hx
    rw [List.getElem?_set] at hx
    split at hx
    ·(try rw [if_pos h1] at hx)
     simp only [Option.some.injEq] at hx
     subst hx
     rw [dU y' off _ (by omega)]; exact hyl
    ·exact a5 n x hx
   obtain ⟨hw', hs'⟩ := eE (w' := w.setRow b (c.toList.take (i' * esz' + off) ++ u.cells.toList ++ c.toList.drop (i' * esz' + off + u.cells.toList.length)).toArray) (o' := .row esz' (l.set i' (bL y' off (cellsOf y)))) (Kept.setRow _ _ _) hw hs hget (by simp)
    (fun b' _ hne => setRow_other w b b' _ (fun e => hne (by rw [hbk, e])))
    ⟨some b, cap, hMM, by simpa using a2, by simpa using a3, a4, hspl, fun n j x yy hx hy2 => by
     rw [List.getElem?_set] at hx
     split at hx
     ·(try rw [if_pos h1] at hx)
      simp only [Option.some.injEq] at hx
      subst hx
      rw [dO y' off _ (by omega)] at hy2
      split at hy2
      ·exact (hc2 _ _ hy2).1
      ·exact a6 i' j y' yy hy' hy2
     ·exact a6 n j x yy hx hy2, fun h => (by cases h), fun b' hb' => by
     simp only [Option.some.injEq] at hb'
     subst hb'
     have hspc := ec c (i' * esz' + off) u.cells.toList (by simp; omega)
     refine ⟨hF, (a8 b rfl).2.1, _, e, ⟨fr, setRow_heap w b c _ e fr hb, by rw [hspc]; exact hfr⟩, by rw [hspc]; exact hc, fun n j x yy hx hy2 => ?_⟩
     have hxl := hspl n x hx
     have hjlt : j < esz' := by
      rcases Nat.lt_or_ge j x.length with h | h
      ·omega
      ·rw [List.getElem?_eq_none h] at hy2; cases hy2
     rw [iB c _ _ (by omega)]
     rw [List.getElem?_set] at hx
     by_cases hni : i' = n
     ·subst hni
      (first | rw [if_pos rfl, if_pos h1] at hx | rw [if_pos rfl] at hx)
      simp only [Option.some.injEq] at hx
      subst hx
      rw [dO y' off _ (by omega)] at hy2
      split at hy2
      ·rename_i hin
       rw [if_pos (by omega)]
       obtain ⟨_, u', hu', hr⟩ := hc2 _ _ hy2
       have hfz : yy.bT = true := List.all_eq_true.1 h3 yy (List.mem_of_getElem? hy2)
       have e1 : i' * esz' + j - (i' * esz' + off) = j - off := by omega
       simp only [e1, List.getD_eq_getElem?_getD, hu', Option.getD_some]
       exact hr.down hfz
      ·rename_i hin
       rw [if_neg (by omega)]
       exact (hj i' j y' yy hy' hy2).2
     ·rw [if_neg hni] at hx
      rw [if_neg ?_]
      ·exact (hj n j x yy hx hy2).2
      ·rcases Nat.lt_or_gt_of_ne hni with h | h
       ·have : (i' + 1) * esz' ≤ n * esz' := Nat.mul_le_mul_right _ (by omega)
        rw [Nat.add_mul, Nat.one_mul] at this
        omega
       ·have : (n + 1) * esz' ≤ i' * esz' := Nat.mul_le_mul_right _ (by omega)
        rw [Nat.add_mul, Nat.one_mul] at this
        omega⟩
   exact ⟨_, _, by simp [Instr.storeAt, Instr.sureAddr, hrun], hw', hs', h4 y' hy'⟩
  ·exact h.elim
 ·exact h.elim
theorem rz (hL : LOk P L) {t : Nat} (ht : (L t).ty ≠ .other) {x y : aa} {v u : Value} {G : Gh} {w : World} {sto : Sto} {T : Sto → Prop} (hw : WOk G w) (hs : an G w sto)
  (hx : Rep G true x v) (hy : Rep G true y u) (h : cj L t x y sto T) : vC P (Instr.storeAt t v u) G w T := by
 unfold cj at h
 split at h
 ·exact lU hL ht hw hs hx hy.ez h
 ·exact lU hL ht hw hs hx hy h
theorem ke {G : Gh} {w : World} {sto : Sto} {d : Nat} {cs : List aa} {c : Array Value} {e : TypeId} (hw : WOk G w) (hs : an G w sto) (hc : c.size = cs.length)
  (h1 : ∀ (j : Nat) (x : aa), cs[j]? = some x → x.ar = true ∧ Rep G true x (c.getD j undef)) :
  ∃ G', Ext G G' ∧ WOk G' (w.alloc (.cells c e)) ∧ an G' (w.alloc (.cells c e)) (aF sto d (G.N, .box cs)) ∧ Rep G' true (.bx d G.N 0) (.pointer (some ⟨w.heap.size, 0, none⟩)) := by
 have hx := eR hw d ⟨some w.heap.size, 0, 1⟩
 obtain ⟨a, b, c'⟩ := dV (w' := w.alloc (.cells c e)) (id := d) (o := .box cs) (hd := ⟨some w.heap.size, 0, 1⟩) (Kept.alloc _ _ _) hw hs (by simp) (fun b hb _ => heap_alloc_old w _ b hb)
  (fun b hb => by simp only [Option.some.injEq] at hb; subst hb; exact ⟨by simp, .inl (Nat.le_refl _)⟩)
  ⟨w.heap.size, 0, 1, bU _ _ _, by
   cases hF : G.F w.heap.size with
   | none => exact hF
   | some o => have := (Array.getElem?_eq_some_iff.1 (hw.F _ _ hF)).1; omega, c, e, heap_alloc_new w _, hc, fun j x hj => (h1 j x hj).1, fun j x hj => (h1 j x hj).2.mono hx.toMono⟩
 exact ⟨_, a, b, c', .bx (bU _ _ _)⟩
theorem w0 {t d : Nat} {x : aa} {v : Value} {G : Gh} {w : World} {sto : Sto} {T : aa → Sto → Prop} (hw : WOk G w) (hs : an G w sto)
  (hx : Rep G true x v) (h : x.aB = true ∧ (cellsOf x).length = (L t).sz ∧ 0 < (L t).sz ∧ ∀ h, T (.bx d h 0) (aF sto d (h, .box (cellsOf x)))) : aG P (Instr.box t v) G w T := by
 obtain ⟨h1, _, _, h4⟩ := h
 obtain ⟨hc1, hc2⟩ := fX hx h1
 obtain ⟨G', a, b, c, r⟩ := ke (d := d) (e := t) hw hs hc1 (fun j y hj => by
  obtain ⟨e1, u, hu, hr⟩ := hc2 j y hj
  refine ⟨e1, ?_⟩
  have : v.cells.getD j undef = u := by
   simp only [Array.getElem?_toList] at hu
   simp [hu]
  rw [this]; exact hr)
 exact ⟨G', _, _, _, _, by simp [Instr.box, newVar, newRow], a, b, c, r, h4 _⟩
theorem r9 (hL : LOk P L) {t d : Nat} (ht : (L t).ty ≠ .other) {G : Gh} {w : World} {sto : Sto} {T : aa → Sto → Prop} (hw : WOk G w) (hs : an G w sto)
  (h : 0 < (L t).sz ∧ ∀ h, T (.bx d h 0) (aF sto d (h, .box (L t).zero))) : aG P (Instr.alloc t true (.tuple #[])) G w T := by
 obtain ⟨i, dd, z, k⟩ := hL.known ht
 have hl := eo _ _ k.zeros
 obtain ⟨G', a, b, c, r⟩ := ke (d := d) (e := t) (c := z.cells) hw hs (by simpa using hl.symm) (fun j y hj => by
  obtain ⟨u, hu, hz⟩ := cx _ _ k.zeros j y hj
  have hr := cP (G := G) hz
  have : z.cells.getD j undef = u := by
   simp only [Array.getElem?_toList] at hu
   simp [hu]
  rw [this]; exact ⟨hr.1, hr.2.2.up⟩)
 exact ⟨G', _, _, _, _, by simp [Instr.alloc, zeroValue, typeInfo, k.info, k.zero, newVar, newRow], a, b, c, r, h.2 _⟩
end Go.Rad
namespace Go.Rad
open Go
variable {P : Program} {L : Lay}
theorem ib {t : Nat} {i : TypeInfo} {d : TypeDesc} {z : Value} (k : cI P L t i d z) {f o ft : Nat} (h : kW (L t) f = some (o, ft)) :
  ∃ gs fd, d = .struct gs ∧ gs[f]? = some fd ∧ fd.offset = o ∧ fd.type = ft ∧ 0 < (L ft).sz ∧ (L ft).ty ≠ .other := by
 have hd := k.desc
 unfold kW at h
 split at h
 ·rename_i fs hfs
  rw [hfs] at hd
  cases d <;> simp [bN] at hd
  rename_i gs
  obtain ⟨fd, a1, a2, a3, a4, a5⟩ := fC fs gs.toList hd f o ft h
  exact ⟨gs, fd, rfl, by simpa using a1, a2, a3, a4, a5⟩
 ·cases h
theorem ko {G : Gh} {q : Bool} {cs : List aa} {b off : Nat} {c : Array Value} {e : TypeId} {fr : Nat × Nat} {o : Nat} (hq : G.ok q b) (hF : G.F b = some (.cells c e fr)) (hfit : off + cs.length ≤ c.size)
  (ho : o ≤ cs.length) (hj : ∀ (j : Nat) (x : aa), cs[j]? = some x → x.ar = true ∧ Rep G false x (c.getD (off + j) Go.undef)) :
  Rep G true (.ref q (cs.drop o)) (.pointer (some ⟨b, off + o, none⟩)) := by
 refine .ref hq hF (by simp; omega) (fun j x hx => ?_) (fun j x hx => ?_)
 ·exact (hj (o + j) x (by simpa using hx)).1
 ·have := (hj (o + j) x (by simpa using hx)).2
  rwa [← Nat.add_assoc] at this
theorem mh (hL : LOk P L) {t f : Nat} (ht : (L t).ty ≠ .other) {x : aa} {v : Value} {G : Gh} {w : World} {sto : Sto} {T : aa → Prop} (hw : WOk G w) (hs : an G w sto)
  (hx : Rep G true x v) (h : cV (L t) x f T) : aG P (Instr.fieldAt t v f) G w fun r s => T r ∧ s = sto := by
 obtain ⟨i, d, z, k⟩ := hL.known ht
 unfold cV at h
 split at h
 ·rename_i o ft hf
  obtain ⟨gs, fd, rfl, hfd, hoff, hty, hsz, hft⟩ := ib k hf
  obtain ⟨i2, d2, z2, k2⟩ := hL.known hft
  have hne : i2.size ≠ 0 := by rw [k2.size]; omega
  have hu := k.und
  have hrun : ∀ a : Addr, (Instr.fieldAt t (.pointer (some a)) f).run P w = .ok (.pointer (some (a.add o))) w := by
   intro a
   subst hty
   simp only [Instr.fieldAt, Sem.run_bind, run_underlying hu w, Result.andThen_ok, hfd, Instr.sureAddr, Sem.run_pure, fieldPlace, aL k2 w, hoff]
   rw [if_neg (by omega)]
   rfl
  split at h
  ·obtain ⟨b, cap, esz, hM, rfl⟩ := hx.gj
   exact aG.pure hw hs (by rw [hrun, aV]) (.bx hM) ⟨h, rfl⟩
  ·obtain ⟨b, cap, esz, hM, rfl⟩ := hx.gz
   exact aG.pure hw hs (by rw [hrun, aV, Nat.add_assoc]) (.loc hM) ⟨h, rfl⟩
  ·obtain ⟨b, off, c, e, fr, rfl, hq, hF, hfit, hj⟩ := Rep.eU hx
   exact aG.pure hw hs (by rw [hrun, aV]) (ko hq hF hfit h.1 hj) ⟨h.2, rfl⟩
  ·exact h.elim
 ·exact h.elim
theorem kz {t : Nat} {i : TypeInfo} {d : TypeDesc} {z : Value} (k : cI P L t i d z) {w : World} {c : Array Value} {off : Nat} (hsz : 0 < (L t).sz) (hfit : off + (L t).sz ≤ c.size) :
  (part t c off).run P w = .ok (ldv (L t) c off) w := by
 unfold part ldv
 rw [Sem.run_bind, p8 k w]
 simp only [Result.andThen_ok]
 cases hag : (L t).ag with
 | true => simp only [if_true, Sem.run_bind, aL k w, Result.andThen_ok, Sem.run_pure]
 | false =>
  have : off < c.size := by omega
  simp [this]
theorem Rep.fK {G : Gh} {o : Bool} {cs : List aa} {v : Value} (h : Rep G o (.agg cs) v) :
  ∃ c, v = .agg c ∧ c.size = cs.length ∧ ∀ (j : Nat) (x : aa), cs[j]? = some x → x.ar = true ∧ Rep G o x (c.getD j Go.undef) := by
 cases h with | agg a b c => exact ⟨_, rfl, a, fun j x hx => ⟨b j x hx, c j x hx⟩⟩
theorem oY (hL : LOk P L) {t f : Nat} (ht : (L t).ty ≠ .other) {x : aa} {v : Value} {G : Gh} {w : World} {sto : Sto} {T : aa → Prop} (hw : WOk G w) (hs : an G w sto)
  (hx : Rep G true x v) (h : ch L t x f T) : aG P (Instr.field t v f) G w fun r s => T r ∧ s = sto := by
 obtain ⟨i, d, z, k⟩ := hL.known ht
 unfold ch at h
 split at h
 ·rename_i o ft cs hf
  obtain ⟨gs, fd, rfl, hfd, hoff, hty, hsz, hft⟩ := ib k hf
  obtain ⟨i2, d2, z2, k2⟩ := hL.known hft
  obtain ⟨c, rfl, hc, hj⟩ := Rep.fK hx
  obtain ⟨h1, h2, h3⟩ := h
  have hu := k.und
  have hfit : o + (L ft).sz ≤ c.size := by omega
  refine aG.pure hw hs (v := ldv (L ft) c o) ?_ (iW h2 (by simp; omega) hfit fun j x hx => hj (o + j) x (by simpa using hx)) ⟨h3, rfl⟩
  subst hty hoff
  simp only [Instr.field, Sem.run_bind, run_underlying hu w, Result.andThen_ok, hfd, asAgg, Sem.run_pure, kz k2 h2 hfit]
 ·exact h.elim
theorem Rep.aK {G : Gh} {o : Bool} {k : IntKind} {n : Int} {v : Value} (h : Rep G o (.int k n) v) : v = .int k n ∧ fits k n := by
 cases h with | int a => exact ⟨rfl, a⟩
theorem Rep.dG {G : Gh} {o : Bool} {s : ByteArray} {v : Value} (h : Rep G o (.str s) v) : v = .string s ∧ s.size ≤ maxLen := by
 cases h with | str a => exact ⟨rfl, a⟩
theorem Rep.dj {G : Gh} {o : Bool} {b : Bool} {v : Value} (h : Rep G o (.bool b) v) : v = .bool b := by
 cases h; rfl
theorem Rep.dD {G : Gh} {id g off len : Nat} {v : Value} (h : Rep G true (.osl id g off len) v) :
  ∃ ob cap esz a, v = .slice a len (cap - off) ∧ G.M id g = some ⟨ob, cap, esz⟩ ∧ off + len ≤ cap ∧ len ≤ ao ∧ (ob = none → cap = 0) ∧
    (∀ b, ob = some b → off < cap → a = some ⟨b, off * esz, none⟩) ∧ (∀ b, ob = some b → off = 0 → a = some ⟨b, 0, none⟩) := by
 cases h with | osl a b c n d e => exact ⟨_, _, _, _, rfl, a, b, c, n, d, e⟩
theorem Rep.fE {G : Gh} {o q full : Bool} {l : List (List aa)} {v : Value} (h : Rep G o (.sl q full l) v) : ∃ a cap, v = .slice a l.length cap ∧ l.length ≤ cap ∧ l.length ≤ maxLen ∧ (full = true → cap = l.length) := by
 cases h with
 | slnil a => exact ⟨_, _, rfl, Nat.zero_le _, Nat.zero_le _, a⟩
 | sl a b c => exact ⟨_, _, rfl, a, c, b⟩
theorem Rep.oz {G : Gh} {o q full : Bool} {l : List (List aa)} {v : Value} (h : Rep G o (.sl q full l) v) (hne : l ≠ []) :
  ∃ b off cap c e fr esz, v = .slice (some ⟨b, off, none⟩) l.length cap ∧ l.length ≤ cap ∧ l.length ≤ maxLen ∧ G.ok q b ∧ G.F b = some (.cells c e fr) ∧ off + l.length * esz ≤ c.size ∧
    (∀ (i : Nat) (x : List aa), l[i]? = some x → x.length = esz) ∧
    ∀ (i j : Nat) (x : List aa) (y : aa), l[i]? = some x → x[j]? = some y → y.ar = true ∧ Rep G false y (c.getD (off + i * esz + j) Go.undef) := by
 cases h with
 | slnil a => exact absurd rfl hne
 | sl a b c d e f g hi hj => exact ⟨_, _, _, _, _, _, _, rfl, a, c, d, e, f, g, fun i j x y hx hy => ⟨hi i j x y hx hy, hj i j x y hx hy⟩⟩
theorem bK {t e : Nat} {i : TypeInfo} {d : TypeDesc} {z : Value} (k : cI P L t i d z) (h : (L t).ty = .slice e) : d = .slice e ∧ (L e).ty ≠ .other := by
 have hd := k.desc
 rw [h] at hd
 cases d <;> simp [bN] at hd
 exact ⟨by rw [hd.1], hd.2⟩
theorem eK {t n e : Nat} {i : TypeInfo} {d : TypeDesc} {z : Value} (k : cI P L t i d z) (h : (L t).ty = .array n e) : d = .array n e ∧ (L e).ty ≠ .other := by
 have hd := k.desc
 rw [h] at hd
 cases d <;> simp [bN] at hd
 exact ⟨by rw [hd.1.1, hd.1.2], hd.2⟩
theorem dF {t e : Nat} {w : World} {a : Addr} {len cap : Nat} {kk : IntKind} {n : Int} {i2 : TypeInfo} {d2 : TypeDesc} {z2 : Value} (hu : P.underlying t = some (.slice e)) (k2 : cI P L e i2 d2 z2)
  (h0 : 0 ≤ n) (h1 : n < len) : (Instr.indexAt t (.slice (some a) len cap) (.int kk n)).run P w = .ok (.pointer (some (a.add (n.toNat * (L e).sz)))) w := by
 simp only [Instr.indexAt, asIntOf, Sem.run_bind, Sem.run_pure, Result.andThen_ok, run_underlying hu w]
 rw [if_pos ⟨h0, h1⟩]
 simp [aL k2 w]
theorem ml (hL : LOk P L) {t : Nat} (ht : (L t).ty ≠ .other) {x y : aa} {v u : Value} {G : Gh} {w : World} {sto : Sto} {T : aa → Prop} (hw : WOk G w) (hs : an G w sto)
  (hx : Rep G true x v) (hy : Rep G true y u) (h : aE L t x y sto T) :
  aG P (Instr.indexAt t v u) G w fun r s => T r ∧ s = sto := by
 obtain ⟨i, d, z, k⟩ := hL.known ht
 unfold aE at h
 split at h
 ·rename_i kk n
  obtain ⟨rfl, -⟩ := Rep.aK hy
  split at h
  ·rename_i e he
   obtain ⟨rfl, heo⟩ := bK k he
   obtain ⟨i2, d2, z2, k2⟩ := hL.known heo
   have hu := k.und
   split at h
   ·rename_i id g off len
    split at h
    case h_2 => exact h.elim
    rename_i g' esz0 l0 hget
    obtain ⟨rfl, rfl, ⟨h0, h1⟩, h2⟩ := h
    obtain ⟨ob, cap, esz, a, rfl, hM, hc, _, hcn, ha, _⟩ := Rep.dD hx
    obtain ⟨ob', cap', hM', _⟩ := hs.obj _ _ _ hget
    rw [hM] at hM'
    simp only [Option.some.injEq, Hd.mk.injEq] at hM'
    obtain ⟨rfl, rfl, rfl⟩ := hM'
    obtain ⟨b, rfl⟩ : ∃ b, ob = some b := by
     cases ob with
     | none => have := hcn rfl; omega
     | some b => exact ⟨b, rfl⟩
    rw [ha b rfl (by omega)]
    refine aG.pure hw hs (by rw [dF hu k2 h0 h1, aV]) ?_ ⟨h2, rfl⟩
    rw [← Nat.add_mul]
    have := Rep.loc (i := off + n.toNat) (off := 0) hM
    simpa using this
   ·rename_i q full l
    obtain ⟨⟨h0, h1⟩, h2⟩ := h
    have hne : l ≠ [] := by rintro rfl; simp at h1; omega
    obtain ⟨b, off, cap, c, e', fr, esz, rfl, _, _, hq, hF, hfit, hlen, hj⟩ := hx.oz hne
    have hlt : n.toNat < l.length := by omega
    obtain ⟨y, hy'⟩ : ∃ y, l[n.toNat]? = some y := ⟨l[n.toNat], by simp [hlt]⟩
    obtain ⟨h3, h4⟩ := h2 y hy'
    have hyl := hlen _ y hy'
    have hee : (L e).sz = esz := by omega
    refine aG.pure hw hs (by rw [dF hu k2 h0 h1, aV]) ?_ ⟨h4, rfl⟩
    rw [hee]
    have hroom := dB (esz := esz) hlt (Nat.le_refl _)
    refine .ref hq hF (by omega) (fun j x hx => (hj _ j y x hy' hx).1) (fun j x hx => (hj _ j y x hy' hx).2)
   ·exact h.elim
  ·rename_i m e he
   obtain ⟨rfl, heo⟩ := eK k he
   obtain ⟨i2, d2, z2, k2⟩ := hL.known heo
   obtain ⟨⟨h0, h1⟩, h⟩ := h
   have hu := k.und
   have hrun : ∀ a : Addr, (Instr.indexAt t (.pointer (some a)) (.int kk n)).run P w = .ok (.pointer (some (a.add (n.toNat * (L e).sz)))) w := by
    intro a
    simp only [Instr.indexAt, asIntOf, Sem.run_bind, Sem.run_pure, Result.andThen_ok, run_underlying hu w, Instr.sureAddr]
    rw [if_pos ⟨h0, h1⟩]
    simp [aL k2 w]
   split at h
   ·obtain ⟨b, cap, esz, hM, rfl⟩ := hx.gj
    exact aG.pure hw hs (by rw [hrun, aV]) (.bx hM) ⟨h, rfl⟩
   ·obtain ⟨b, cap, esz, hM, rfl⟩ := hx.gz
    exact aG.pure hw hs (by rw [hrun, aV, Nat.add_assoc]) (.loc hM) ⟨h, rfl⟩
   ·obtain ⟨b, off, c, e, fr, rfl, hq, hF, hfit, hj⟩ := Rep.eU hx
    exact aG.pure hw hs (by rw [hrun, aV]) (ko hq hF hfit h.1 hj) ⟨h.2, rfl⟩
   ·exact h.elim
  ·exact h.elim
 ·exact h.elim
theorem bX {t : Nat} {i : TypeInfo} {d : TypeDesc} {z : Value} (k : cI P L t i d z) (h : (L t).ty = .string) : d = .string := by
 have hd := k.desc
 rw [h] at hd
 cases d <;> simp [bN] at hd <;> rfl
theorem so {t : Nat} {i : TypeInfo} {d : TypeDesc} {z : Value} {k' : IntKind} (k : cI P L t i d z) (h : (L t).ty = .int k') : d = .int k' := by
 have hd := k.desc
 rw [h] at hd
 cases d <;> simp [bN] at hd <;> simp [hd]
theorem xe (b : UInt8) : fits .u8 b.toNat := by
 have := b.toNat_lt
 constructor
 ·simp [IntKind.min, IntKind.signed]
 ·simp [IntKind.max, IntKind.signed, IntKind.bits]; omega
theorem tu (s : ByteArray) (n : Nat) (h : n < s.size) : kB s n = (s[n]).toNat := by
 have h' : n < s.data.size := h
 have e : s[n] = s.data[n] := rfl
 unfold kB
 rw [e, Array.getElem?_toList, Array.getElem?_eq_getElem h']
 rfl
theorem sJ (hL : LOk P L) {t : Nat} (ht : (L t).ty ≠ .other) {x y : aa} {v u : Value} {G : Gh} {w : World} {sto : Sto} {T : aa → Prop} (hw : WOk G w) (hs : an G w sto)
  (hx : Rep G true x v) (hy : Rep G true y u) (h : db L t x y T) : aG P (Instr.index t v u) G w fun r s => T r ∧ s = sto := by
 obtain ⟨i, d, z, k⟩ := hL.known ht
 unfold db at h
 split at h
 ·rename_i kk n
  obtain ⟨rfl, -⟩ := Rep.aK hy
  split at h
  ·rename_i s he
   have := bX k he
   subst this
   obtain ⟨rfl, -⟩ := Rep.dG hx
   obtain ⟨⟨h0, h1⟩, h2⟩ := h
   have hlt : n.toNat < s.size := by omega
   have hu := k.und
   refine aG.pure hw hs (v := .int .u8 (kB s n.toNat)) ?_ ?_ ⟨h2, rfl⟩
   ·have hg : s[n.toNat]? = some s[n.toNat] := by simp [hlt]
    simp [Instr.index, asIntOf, run_underlying hu w, h0, hg, tu s _ hlt]
   ·rw [tu s _ hlt]; exact .int (xe _)
  ·rename_i m e cs he
   obtain ⟨rfl, heo⟩ := eK k he
   obtain ⟨i2, d2, z2, k2⟩ := hL.known heo
   obtain ⟨c, rfl, hc, hj⟩ := Rep.fK hx
   obtain ⟨⟨h0, h1⟩, h2, h3, h4⟩ := h
   have hu := k.und
   have hfit : n.toNat * (L e).sz + (L e).sz ≤ c.size := by omega
   refine aG.pure hw hs (v := ldv (L e) c (n.toNat * (L e).sz)) ?_ (iW h3 (by simp; omega) hfit fun j x hx => hj (n.toNat * (L e).sz + j) x (by simpa using hx)) ⟨h4, rfl⟩
   simp only [Instr.index, asIntOf, Sem.run_bind, Sem.run_pure, Result.andThen_ok, run_underlying hu w]
   rw [if_pos ⟨h0, h1⟩]
   simp [aL k2 w, kz k2 h3 hfit]
  ·exact h.elim
 ·exact h.elim
theorem oW {x : aa} {v : Value} {i : Nat} {G : Gh} {w : World} {sto : Sto} {T : aa → Prop} (hw : WOk G w) (hs : an G w sto)
  (hx : Rep G true x v) (h : bV x i T) : aG P (Instr.extract v i) G w fun r s => T r ∧ s = sto := by
 unfold bV at h
 split at h
 ·rename_i vs
  obtain ⟨y, hy, hT⟩ := h
  cases hx with
  | @tup _ _ c a b =>
   have hi : i < c.size := by
    rw [a]
    rcases Nat.lt_or_ge i vs.length with h | h
    ·exact h
    ·rw [List.getElem?_eq_none h] at hy; cases hy
   have hr := b i y hy
   refine aG.pure hw hs (v := c.getD i Go.undef) (by simp [Instr.extract, hi]) hr ⟨hT, rfl⟩
 ·exact h.elim
theorem zr (n : Nat) (h : n ≤ maxLen) : fits .i64 (n : Int) := by
 unfold maxLen at h
 constructor
 ·simp [IntKind.min, IntKind.signed, IntKind.bits] <;> omega
 ·simp [IntKind.max, IntKind.signed, IntKind.bits]; omega
theorem eN (n : Nat) (h : n ≤ ao) : fits .i64 (n : Int) := by
 unfold ao at h
 constructor
 ·simp [IntKind.min, IntKind.signed, IntKind.bits] <;> omega
 ·simp [IntKind.max, IntKind.signed, IntKind.bits]; omega
theorem sA (n : Nat) (h : n ≤ maxLen) : fits .i64 (n : Int) := by
 unfold maxLen at h
 constructor
 ·simp [IntKind.min, IntKind.signed, IntKind.bits] <;> omega
 ·simp [IntKind.max, IntKind.signed, IntKind.bits]; omega
theorem ia {t k' e' : Nat} {i : TypeInfo} {d : TypeDesc} {z : Value} (k : cI P L t i d z) (h : (L t).ty = .map k' e') : d = .map k' e' ∧ (L k').ty ≠ .other ∧ (L e').ty ≠ .other := by
 have hd := k.desc
 rw [h] at hd
 cases d <;> simp [bN] at hd
 exact ⟨by rw [hd.1.1.1, hd.1.1.2], hd.1.2, hd.2⟩
theorem zX {G : Gh} {w : World} {id g : Nat} {es : List (ByteArray × aa)} (h : bW G w id g (.mp es)) {b cap e' : Nat} (hM : G.M id g = some ⟨some b, cap, e'⟩) :
  G.F b = none ∧ ∃ me clock, w.heap[b]? = some (.map me clock) ∧ me.size = es.length ∧ es.length ≤ ao ∧
   ∀ (j : Nat) (x : ByteArray × aa), es[j]? = some x → ∃ m : MapEntry, me[j]? = some m ∧ m.key = .string x.1 ∧ x.2.ar = true ∧ Rep G false x.2 m.val := by
 obtain ⟨b', cap', esz, h1, h2, me, cl, h3, h4, h4', h5⟩ := h
 rw [hM] at h1
 simp only [Option.some.injEq, Hd.mk.injEq] at h1
 obtain ⟨rfl, _, _⟩ := h1
 exact ⟨h2, me, cl, h3, h4, h4', h5⟩
theorem wb {G : Gh} {w : World} {id g : Nat} {es : List (Int × aa)} (h : bW G w id g (.mpi es)) {b cap e' : Nat} (hM : G.M id g = some ⟨some b, cap, e'⟩) :
  G.F b = none ∧ ∃ me clock, w.heap[b]? = some (.map me clock) ∧ me.size = es.length ∧ es.length ≤ ao ∧
   ∀ (j : Nat) (x : Int × aa), es[j]? = some x → ∃ m : MapEntry, me[j]? = some m ∧ m.key = .int .i64 x.1 ∧ x.2.ar = true ∧ Rep G false x.2 m.val := by
 obtain ⟨b', cap', esz, h1, h2, me, cl, h3, h4, h4', h5⟩ := h
 rw [hM] at h1
 simp only [Option.some.injEq, Hd.mk.injEq] at h1
 obtain ⟨rfl, _, _⟩ := h1
 exact ⟨h2, me, cl, h3, h4, h4', h5⟩
theorem Rep.fT {G : Gh} {id g : Nat} {v : Value} (h : Rep G true (.map id g) v) : ∃ b cap esz, G.M id g = some ⟨some b, cap, esz⟩ ∧ v = .map (some b) := by
 cases h with | map a => exact ⟨_, _, _, a, rfl⟩
theorem xz (hL : LOk P L) {t ty : Nat} (ht : (L t).ty ≠ .other) {x : aa} {v : Value} {G : Gh} {w : World} {sto : Sto} {T : aa → Prop} (hw : WOk G w) (hs : an G w sto)
  (hx : Rep G true x v) (h : eg L t x sto T) : aG P (Builtin.len_ #[t] ty #[v]) G w fun r s => T r ∧ s = sto := by
 obtain ⟨i, d, z, k⟩ := hL.known ht
 have hu := k.und
 unfold eg at h
 split at h
 ·rename_i s he
  have := bX k he
  subst this
  obtain ⟨rfl, hb⟩ := Rep.dG hx
  exact aG.pure hw hs (v := .int .i64 s.size) (by simp [Builtin.len_, run_underlying hu w, goInt]) (.int (sA _ hb)) ⟨h, rfl⟩
 ·rename_i e q full l he
  obtain ⟨rfl, _⟩ := bK k he
  obtain ⟨a, cap, rfl, _, hb, _⟩ := hx.fE
  exact aG.pure hw hs (v := .int .i64 l.length) (by simp [Builtin.len_, run_underlying hu w, goInt]) (.int (zr _ hb)) ⟨h, rfl⟩
 ·rename_i e id g off len he
  obtain ⟨rfl, _⟩ := bK k he
  obtain ⟨ob, cap, esz, a, rfl, hM, hc, hb, _⟩ := Rep.dD hx
  exact aG.pure hw hs (v := .int .i64 len) (by simp [Builtin.len_, run_underlying hu w, goInt]) (.int (eN _ hb)) ⟨h, rfl⟩
 ·rename_i n e he
  obtain ⟨rfl, _⟩ := eK k he
  exact aG.pure hw hs (v := .int .i64 n) (by simp [Builtin.len_, run_underlying hu w, goInt]) (.int (eN _ (by unfold ao; omega))) ⟨h.2, rfl⟩
 ·rename_i k' e' he
  obtain ⟨rfl, _⟩ := ia k he
  cases hx
  exact aG.pure hw hs (v := .int .i64 0) (by simp [Builtin.len_, run_underlying hu w, goInt]) (.int (eN 0 (Nat.zero_le _))) ⟨h, rfl⟩
 ·rename_i k' e' id g he
  obtain ⟨rfl, _⟩ := ia k he
  obtain ⟨b, cap, esz, hM, rfl⟩ := Rep.fT hx
  split at h
  ·rename_i g' es hget
   obtain ⟨rfl, h⟩ := h
   obtain ⟨_, me, cl, hb, hsz, hbig, _⟩ := zX (hs.obj _ _ _ hget) hM
   refine aG.pure hw hs (v := .int .i64 es.length) ?_ (.int (eN _ hbig)) ⟨h, rfl⟩
   have hg : (getObj b).run P w = .ok (.map me cl) w := by simp only [getObj, Sem.run, hb]
   simp [Builtin.len_, run_underlying hu w, goInt, hg, hsz]
  ·rename_i g' es hget
   obtain ⟨rfl, h⟩ := h
   obtain ⟨_, me, cl, hb, hsz, hbig, _⟩ := wb (hs.obj _ _ _ hget) hM
   refine aG.pure hw hs (v := .int .i64 es.length) ?_ (.int (eN _ hbig)) ⟨h, rfl⟩
   have hg : (getObj b).run P w = .ok (.map me cl) w := by simp only [getObj, Sem.run, hb]
   simp [Builtin.len_, run_underlying hu w, goInt, hg, hsz]
  ·exact h.elim
 ·exact h.elim
end Go.Rad
namespace Go.Rad
open Go
variable {P : Program} {L : Lay}
theorem cR (k : IntKind) (n : Int) : fits k (k.wrap n) := by
 unfold fits IntKind.min IntKind.max IntKind.wrap
 have h0 : (2 : Int) ^ k.bits = 2 * 2 ^ (k.bits - 1) := by cases k <;> rfl
 have h1 : 0 ≤ n % (2 ^ k.bits : Int) := Int.emod_nonneg _ (by cases k <;> decide)
 have h2 : n % (2 ^ k.bits : Int) < 2 ^ k.bits := Int.emod_lt_of_pos _ (by cases k <;> decide)
 generalize n % (2 ^ k.bits : Int) = m at *
 simp only
 cases hk : k.signed <;> simp only [Bool.true_and, Bool.false_and, Bool.false_eq_true, if_false, if_true]
 ·omega
 ·by_cases hm : m ≥ (2 : Int) ^ (k.bits - 1)
  ·rw [if_pos (by simpa using hm)]; omega
  ·rw [if_neg (by simpa using hm)]; omega
theorem wrap_i64 (n : Int) (h : gS n) : IntKind.i64.wrap n = n := by
 unfold gS at h
 unfold IntKind.wrap
 simp only [IntKind.bits, IntKind.signed, Bool.true_and]
 by_cases hm : n % 18446744073709551616 ≥ 9223372036854775808
 ·rw [if_pos (by simpa using hm)]; omega
 ·rw [if_neg (by simpa using hm)]; omega
theorem fL {k : IntKind} {n : Int} {T : aa → Prop} {G : Gh} (h : bo k n T) : ∃ r, Rep G true r (.int k (k.wrap n)) ∧ T r := by
 unfold bo at h
 split at h
 ·refine ⟨_, ?_, h.2⟩
  have := cR .i64 n
  rw [wrap_i64 n h.1] at *
  exact .int this
 ·exact ⟨_, .int (cR _ _), h⟩
theorem xg {k : IntKind} {a b : Int} (ha : fits k a) : fits k (a.tmod b) := by
 unfold fits at *
 have hmin : k.min ≤ 0 := by cases k <;> decide
 have hmax : 0 ≤ k.max := by cases k <;> decide
 by_cases h : 0 ≤ a
 ·have h1 := Int.tmod_nonneg b h
  have h2 := Int.tmod_lt_of_pos
  have h3 : a.tmod b ≤ a := by
   have := Int.natAbs_tmod a b
   have h4 : a.natAbs % b.natAbs ≤ a.natAbs := Nat.mod_le _ _
   omega
  omega
 ·have h3 : a ≤ a.tmod b ∧ a.tmod b ≤ 0 := by
   have h5 : (-a).tmod b = -(a.tmod b) := Int.neg_tmod a b
   have h1 := Int.tmod_nonneg (a := -a) b (by omega)
   have := Int.natAbs_tmod (-a) b
   have h4 : (-a).natAbs % b.natAbs ≤ (-a).natAbs := Nat.mod_le _ _
   omega
  omega
theorem xf {k : IntKind} {a : Int} (ha : fits k a) (n : Nat) : fits k (a.fdiv (2 ^ n)) := by
 unfold fits at *
 have hmin : k.min ≤ 0 := by cases k <;> decide
 have hmax : 0 ≤ k.max := by cases k <;> decide
 have hp : (0 : Int) < 2 ^ n := Int.pow_pos (by decide)
 rw [Int.fdiv_eq_ediv_of_nonneg _ (Int.le_of_lt hp)]
 by_cases h : 0 ≤ a
 ·have h1 : 0 ≤ a / 2 ^ n := Int.ediv_nonneg h (Int.le_of_lt hp)
  have h2 : a / 2 ^ n ≤ a := Int.ediv_le_self _ h
  omega
 ·have h1 : a / 2 ^ n < 0 := Int.ediv_neg_of_neg_of_pos (by omega) hp
  have h2 : a ≤ a / 2 ^ n := by
   rw [Int.le_ediv_iff_mul_le hp]
   have : a * 2 ^ n ≤ a * 1 := Int.mul_le_mul_of_nonpos_left (by omega) (by omega)
   omega
  omega
theorem xu {op : BinOp} {k : IntKind} {a b : Int} {T : aa → Prop} {G : Gh} {w : World} {sto : Sto} {t : Nat} (hw : WOk G w) (hs : an G w sto) (hsh : op ≠ .shl ∧ op ≠ .shr) (ha : fits k a)
  (h : bu op k a b T) : aG P (binOp op t (.int k a) (.int k b)) G w fun r s => T r ∧ s = sto := by
 have key : ∀ (v : Value) (r : aa), (binOp op t (.int k a) (.int k b)).run P w = .ok v w → Rep G true r v → T r → aG P (binOp op t (.int k a) (.int k b)) G w fun r s => T r ∧ s = sto :=
  fun v r h1 h2 h3 => aG.pure hw hs h1 h2 ⟨h3, rfl⟩
 cases op <;> simp only [bu] at h
 case add => obtain ⟨r, h1, h2⟩ := fL (G := G) h; exact key _ r (by simp [binOp, Op.intArith]) h1 h2
 case sub => obtain ⟨r, h1, h2⟩ := fL (G := G) h; exact key _ r (by simp [binOp, Op.intArith]) h1 h2
 case mul => obtain ⟨r, h1, h2⟩ := fL (G := G) h; exact key _ r (by simp [binOp, Op.intArith]) h1 h2
 case quo => obtain ⟨r, h1, h2⟩ := fL (G := G) h.2; exact key _ r (by simp [binOp, Op.intDiv, h.1]) h1 h2
 case rem => exact key (.int k (a.tmod b)) _ (by simp [binOp, Op.intDiv, h.1]) (.int (xg ha)) h.2
 case and => exact key (.int k (bitsOf .and k a b)) _ (by simp [binOp, Op.intBits, bitsOf]) (.int (cR _ _)) h
 case or => exact key (.int k (bitsOf .or k a b)) _ (by simp [binOp, Op.intBits, bitsOf]) (.int (cR _ _)) h
 case xor => exact key (.int k (bitsOf .xor k a b)) _ (by simp [binOp, Op.intBits, bitsOf]) (.int (cR _ _)) h
 case andNot => exact key (.int k (bitsOf .andNot k a b)) _ (by simp [binOp, Op.intBits, bitsOf]) (.int (cR _ _)) h
 case eql => exact key (.bool (decide (a = b))) _ (by simp [binOp, Op.intCmp]; rfl) .bool h
 case neq => exact key (.bool (!decide (a = b))) _ (by simp [binOp, Op.intCmp]; rfl) .bool h
 case lss => exact key (.bool (decide (a < b))) _ (by simp [binOp, Op.intCmp]) .bool h
 case leq => exact key (.bool (decide (a ≤ b))) _ (by simp [binOp, Op.intCmp]) .bool h
 case gtr => exact key (.bool (decide (b < a))) _ (by simp [binOp, Op.intCmp]) .bool h
 case geq => exact key (.bool (decide (b ≤ a))) _ (by simp [binOp, Op.intCmp]) .bool h
 all_goals exact absurd h id
theorem lS {op : BinOp} {k k' : IntKind} {a b : Int} {T : aa → Prop} {G : Gh} {w : World} {sto : Sto} {t : Nat} (hw : WOk G w) (hs : an G w sto) (hsh : op = .shl ∨ op = .shr) (ha : fits k a)
  (h : dc op k a b T) : aG P (binOp op t (.int k a) (.int k' b)) G w fun r s => T r ∧ s = sto := by
 rcases hsh with rfl | rfl
 ·simp only [dc] at h
  exact aG.pure hw hs (v := .int k (k.wrap (a * 2 ^ min b.toNat k.bits))) (by simp only [binOp, Op.shift]; rw [if_neg (by omega)]; simp) (.int (cR _ _)) ⟨h.2, rfl⟩
 ·simp only [dc] at h
  exact aG.pure hw hs (v := .int k (a.fdiv (2 ^ min b.toNat k.bits))) (by simp only [binOp, Op.shift]; rw [if_neg (by omega)]; simp) (.int (xf ha _)) ⟨h.2, rfl⟩
theorem jW (a b : ByteArray) : (a.toList == b.toList) = decide (a = b) := by
 rw [ByteArray.toList_eq, ByteArray.toList_eq]
 by_cases h : a = b
 ·subst h; simp
 ·have : a.data ≠ b.data := fun e => h (ByteArray.ext e)
  simp [h, this]
theorem yi {op : BinOp} {a b : ByteArray} {T : aa → Prop} {G : Gh} {w : World} {sto : Sto} {t : Nat} (hw : WOk G w) (hs : an G w sto)
  (h : l9 op a b T) : aG P (binOp op t (.string a) (.string b)) G w fun r s => T r ∧ s = sto := by
 have key : ∀ (v : Value) (r : aa), (binOp op t (.string a) (.string b)).run P w = .ok v w → Rep G true r v → T r → aG P (binOp op t (.string a) (.string b)) G w fun r s => T r ∧ s = sto :=
  fun v r h1 h2 h3 => aG.pure hw hs h1 h2 ⟨h3, rfl⟩
 have hbin : op ≠ .shl → op ≠ .shr → binOp op t (.string a) (.string b) = Op.stringOp op a b := by intros; cases op <;> rfl
 cases op <;> simp only [l9] at h
 case add =>
  refine key (.string (a ++ b)) _ ?_ (.str (by rw [ByteArray.size_append]; exact h.1)) h.2
  rw [hbin (by simp) (by simp)]
  simp only [Op.stringOp]
  rw [if_neg]
  ·rfl
  ·have := h.1
   unfold maxLen at this
   simp [IntKind.max, IntKind.signed, IntKind.bits]; omega
 case eql => exact key _ _ (by rw [hbin (by simp) (by simp)]; simp only [Op.stringOp, jW, Sem.run_pure]) .bool h
 case neq => exact key _ _ (by rw [hbin (by simp) (by simp)]; simp only [Op.stringOp, jW, Sem.run_pure]) .bool h
 case lss => exact key _ _ (by rw [hbin (by simp) (by simp)]; simp only [Op.stringOp, Sem.run_pure]) .bool h
 case leq => exact key _ _ (by rw [hbin (by simp) (by simp)]; simp only [Op.stringOp, jW, Sem.run_pure]) .bool h
 case gtr => exact key _ _ (by rw [hbin (by simp) (by simp)]; simp only [Op.stringOp, jW, Sem.run_pure]) .bool h
 case geq => exact key _ _ (by rw [hbin (by simp) (by simp)]; simp only [Op.stringOp, Sem.run_pure]) .bool h
theorem eO {k : IntKind} : ∀ (xs : List aa) (a : List Int), bj k xs = some a → xs = a.map (aa.int k)
 | [], a, h => by simp [bj] at h; subst h; rfl
 | .int k' n :: r, a, h => by
  simp only [bj] at h
  split at h
  ·rename_i hk
   subst hk
   cases hr : bj k' r with
   | none => rw [hr] at h; cases h
   | some b =>
    rw [hr] at h
    simp at h
    subst h
    simp [eO r b hr]
  ·cases h
 | .bool _ :: _, _, h | .str _ :: _, _, h | .nil :: _, _, h | .ref _ _ :: _, _, h | .sl _ _ _ :: _, _, h | .fn _ _ :: _, _, h | .nilfn :: _, _, h | .nilmap :: _, _, h | .agg _ :: _, _, h | .tup _ :: _, _, h | .loc _ _ _ _ :: _, _, h | .bx _ _ _ :: _, _, h | .osl _ _ _ _ :: _, _, h | .map _ _ :: _, _, h | .opt _ _ :: _, _, h | .undef :: _, _, h => by simp [bj] at h
theorem kp {G : Gh} {k : IntKind} {a : List Int} {c : Array Value} (hc : c.size = a.length) (h : ∀ (j : Nat) (x : aa), (a.map (aa.int k))[j]? = some x → x.ar = true ∧ Rep G true x (c.getD j undef)) :
  c = (a.map (Value.int k)).toArray := by
 apply Array.ext
 ·simpa using hc
 ·intro j h1 h2
  have hj : j < a.length := by omega
  have := (h j (.int k a[j]) (by simp [hj])).2
  have hv := (Rep.aK this).1
  simp only [Array.getD_eq_getD_getElem?, Array.getElem?_eq_getElem h1, Option.getD_some] at hv
  simp [hv]
theorem tn {t e n m0 : Nat} {k : IntKind} {i2 : TypeInfo} {d2 : TypeDesc} {z2 : Value} (hu : P.underlying t = some (.array n e)) (k2 : cI P L e i2 d2 z2) (he : (L e).ty = .int k) (hsz : (L e).sz = 1) (hag : (L e).ag = false)
  (a b : List Int) (ha : a.length = n) (hb : b.length = n) (w : World) :
  (Op.equalIn (m0 + 1 + 1) t (.agg (a.map (Value.int k)).toArray) (.agg (b.map (Value.int k)).toArray)).run P w = .ok (decide (a = b)) w := by
 have hd2 : d2 = .int k := by
  have := k2.desc
  rw [he] at this
  cases d2 <;> simp [bN] at this
  rw [this]
 subst hd2
 have hstep : ∀ (j : Nat) (w : World), j < n → ∀ (c : List Int), c.length = n → (part e (c.map (Value.int k)).toArray (j * 1)).run P w = .ok (.int k (c.getD j 0)) w := by
  intro j w hj c hc
  have := kz (c := (c.map (Value.int k)).toArray) (off := j * 1) (w := w) k2 (by omega) (by simp; omega)
  rw [this]
  have hj' : j < c.length := by omega
  simp [ldv, hag, hj', List.getD]
 rw [Op.equalIn]
 simp only [Sem.run_bind, run_underlying hu, Result.andThen_ok, aL k2, hsz]
 rw [Std.Legacy.Range.forIn_eq_forIn_range']
 simp only [Std.Legacy.Range.size, Nat.sub_zero, Nat.add_sub_cancel, Nat.div_one]
 have main : ∀ (m j : Nat) (w : World), j + m = n → a.take j = b.take j →
   ((forIn (List.range' j m) ((none, ()) : Option Bool × Unit) fun i r => do
    let x ← part e (a.map (Value.int k)).toArray (i * 1)
    let y ← part e (b.map (Value.int k)).toArray (i * 1)
    let c ← Op.equalIn (m0 + 1) e x y
    if (!c) = true then pure (ForInStep.done (some false, ())) else pure (ForInStep.yield (none, ())) : Sem _)).run P w =
    .ok ((if a = b then none else some false, ())) w := by
  intro m
  induction m with
  | zero =>
   intro j w hj hpre
   have : a = b := by rwa [List.take_of_length_le (by omega), List.take_of_length_le (by omega)] at hpre
   simp [this]
  | succ m ih =>
   intro j w hj hpre
   have hja : j < a.length := by omega
   have hjb : j < b.length := by omega
   simp only [List.range'_succ, List.forIn_cons, Sem.run_bind, hstep j _ (by omega) a ha, hstep j _ (by omega) b hb, Result.andThen_ok, run_equalIn_int _ _ _ _ _ _ _ k2.und]
   have e1 : a.getD j 0 = a[j] := by simp [List.getD, hja]
   have e2 : b.getD j 0 = b[j] := by simp [List.getD, hjb]
   rw [e1, e2]
   by_cases hh : a[j] = b[j]
   ·have hx : (a[j] == b[j]) = true := by simpa using hh
    simp only [hx, Bool.not_true, Bool.false_eq_true, if_false, Sem.run_pure, Result.andThen_ok]
    refine ih (j + 1) w (by omega) ?_
    rw [List.take_succ_eq_append_getElem hja, List.take_succ_eq_append_getElem hjb, hpre, hh]
   ·have hx : (a[j] == b[j]) = false := by simpa using hh
    have hab : a ≠ b := by rintro rfl; exact hh rfl
    simp only [hx, Bool.not_false, if_true, Sem.run_pure, Result.andThen_ok, hab, if_false]
 have := main n 0 w (by omega) (by simp)
 rw [this]
 simp only [Result.andThen_ok]
 by_cases h : a = b
 ·simp [h]
 ·simp [h]
theorem oh (hL : LOk P L) {m0 : Nat} {k : IntKind} {a b : List Int} : ∀ (fs : List (Nat × Nat)) (gs : List Field) (i : Nat) (w : World), ba L fs gs = true → kA L k fs i = true → (gs.all fun f => f.name != "_") = true → i + fs.length = a.length → b.length = a.length → a.take i = b.take i →
  (Op.eqFields (m0 + 1) (a.map (Value.int k)).toArray (b.map (Value.int k)).toArray gs).run P w = .ok (decide (a = b)) w
 | [], [], i, w, _, _, _, hl, hb, ht => by
  simp only [List.length_nil, Nat.add_zero] at hl
  rw [List.take_of_length_le (by omega), List.take_of_length_le (by omega)] at ht
  simp [Op.eqFields, ht]
 | [], _ :: _, _, _, h, _, _, _, _, _ => by simp [ba] at h
 | _ :: _, [], _, _, h, _, _, _, _, _ => by simp [ba] at h
 | (o, ft) :: fs, f :: gs, i, w, h, hs, hn, hl, hb, ht => by
  simp only [ba, Bool.and_eq_true, beq_iff_eq, bne_iff_ne, ne_eq, decide_eq_true_eq] at h
  obtain ⟨⟨⟨⟨h1, h2⟩, h3⟩, h4⟩, h5⟩ := h
  simp only [kA, Bool.and_eq_true, Nat.beq_eq, decide_eq_true_eq, Bool.not_eq_true'] at hs
  obtain ⟨⟨⟨⟨s1, s2⟩, s3⟩, s4⟩, s5⟩ := hs
  simp only [List.all_cons, Bool.and_eq_true, bne_iff_ne, ne_eq] at hn
  obtain ⟨i2, d2, z2, k2⟩ := hL.known h4
  have hd2 : d2 = .int k := by
   have := k2.desc
   rw [s2] at this
   cases d2 <;> simp [bN] at this
   rw [this]
  subst hd2
  simp only [List.length_cons] at hl
  have hstep : ∀ (c : List Int), c.length = a.length → (part ft (c.map (Value.int k)).toArray i).run P w = .ok (.int k (c.getD i 0)) w := by
   intro c hc
   have := kz (c := (c.map (Value.int k)).toArray) (off := i) (w := w) k2 (by omega) (by simp; omega)
   rw [this]
   have hj' : i < c.length := by omega
   simp [ldv, s4, hj', List.getD]
  rw [Op.eqFields, if_pos hn.1, h1, h2, s1]
  simp only [Sem.run_bind, hstep a rfl, hstep b hb, Result.andThen_ok, run_equalIn_int _ _ _ _ _ _ _ k2.und]
  have hja : i < a.length := by omega
  have hjb : i < b.length := by omega
  have e1 : a.getD i 0 = a[i] := by simp [List.getD, hja]
  have e2 : b.getD i 0 = b[i] := by simp [List.getD, hjb]
  rw [e1, e2]
  by_cases hh : a[i] = b[i]
  ·have hx : (a[i] == b[i]) = true := by simpa using hh
   simp only [hx, Bool.not_true, Bool.false_eq_true, if_false]
   refine oh hL fs gs (i + 1) w h5 s5 hn.2 (by omega) hb ?_
   rw [List.take_succ_eq_append_getElem hja, List.take_succ_eq_append_getElem hjb, ht, hh]
  ·have hx : (a[i] == b[i]) = false := by simpa using hh
   have hab : a ≠ b := by rintro rfl; exact hh rfl
   simp only [hx, Bool.not_false, if_true, Sem.run_pure, hab, decide_false]
theorem lK (hL : LOk P L) {t : Nat} (ht : (L t).ty ≠ .other) {neg : Bool} {xs ys : List aa} {u v : Value} {G : Gh} {w : World} {sto : Sto} {T : Bool → Prop} {x0 y0 : Operand} (hw : WOk G w) (hs : an G w sto)
  (hx : Rep G true (.agg xs) u) (hy : Rep G true (.agg ys) v) (h : dH L t xs ys T) :
  aG P (do eqGuard (if neg then .neq else .eql) t x0 y0 u v; binOp (if neg then .neq else .eql) t u v) G w fun r s => (∃ b, r = .bool (if neg then !b else b) ∧ T b) ∧ s = sto := by
 obtain ⟨i, d, z, k⟩ := hL.known ht
 unfold dH at h
 split at h
 ·rename_i fs hte
  split at h
  case h_2 => exact h.elim
  rename_i kk hsk
  obtain ⟨a, b, ha, hb, hla, hlb, hT⟩ := h
  have hsi : kA L kk fs 0 = true := by
   cases fs with
   | nil => cases hsk
   | cons p fs =>
    simp only [fv] at hsk
    unfold vT at hsk
    split at hsk
    ·split at hsk
     ·rename_i hh; cases hsk; exact hh
     ·cases hsk
    ·cases hsk
  have hd := k.desc
  have hq := k.eqs
  rw [hte] at hd
  cases d <;> simp [bN] at hd
  rename_i gs
  simp only [zk, hte, hsk, Bool.and_eq_true, Bool.not_eq_true'] at hq
  obtain ⟨⟨hst, hgt⟩, hnm⟩ := hq
  obtain ⟨c1, rfl, hc1, hj1⟩ := Rep.fK hx
  obtain ⟨c2, rfl, hc2, hj2⟩ := Rep.fK hy
  have hxs := eO xs a ha
  have hys := eO ys b hb
  subst hxs hys
  have e1 := kp (by simpa using hc1) hj1
  have e2 := kp (by simpa using hc2) hj2
  subst e1 e2
  have hu := k.und
  have hf : P.fieldsOf t = gs := by unfold Program.fieldsOf; rw [hu]
  have hrun := run_equalIn_struct w 9999 t (a.map (Value.int kk)).toArray (b.map (Value.int kk)).toArray (by rw [hf]; exact hu) hst
  rw [hf] at hrun
  replace hrun := hrun.trans (oh hL (m0 := 9998) (a := a) (b := b) fs gs.toList 0 w hd hsi hnm (by omega) (by omega) rfl)
  refine aG.pure hw hs (v := .bool (if neg then !decide (a = b) else decide (a = b))) ?_ .bool ⟨⟨_, rfl, hT⟩, rfl⟩
  simp only [Sem.run_bind, run_eqGuard_agg w _ t x0 y0 _ _ hgt, Result.andThen_ok]
  cases neg
  ·simp only [Bool.false_eq_true, if_false, run_eql_struct, hrun, Result.andThen_ok]
  ·simp only [if_true, run_neq_struct, hrun, Result.andThen_ok]
 ·rename_i n e hte
  split at h
  ·rename_i kk hek
   obtain ⟨a, b, ha, hb, hla, hlb, hn, hsz, hag, hT⟩ := h
   obtain ⟨rfl, heo⟩ := eK k hte
   obtain ⟨i2, d2, z2, k2⟩ := hL.known heo
   have hd2 : d2 = .int kk := by
    have := k2.desc
    rw [hek] at this
    cases d2 <;> simp [bN] at this
    rw [this]
   obtain ⟨c1, rfl, hc1, hj1⟩ := Rep.fK hx
   obtain ⟨c2, rfl, hc2, hj2⟩ := Rep.fK hy
   have hxs := eO xs a ha
   have hys := eO ys b hb
   subst hxs hys
   have e1 := kp (by simpa using hc1) hj1
   have e2 := kp (by simpa using hc2) hj2
   subst e1 e2
   have hu := k.und
   have hgt : P.eqGuardType P.depth t = false := by
    have h2 := k2.und
    subst hd2
    have : P.depth = (2 * (P.types.size + Made.depth)) + 1 + 1 := rfl
    rw [this]
    simp [Program.eqGuardType, hu, h2]
   have hrun := tn (P := P) (L := L) (m0 := 9998) hu k2 hek hsz hag a b hla hlb w
   refine aG.pure hw hs (v := .bool (if neg then !decide (a = b) else decide (a = b))) ?_ .bool ⟨⟨_, rfl, hT⟩, rfl⟩
   simp only [Sem.run_bind, run_eqGuard_agg w _ t x0 y0 _ _ hgt, Result.andThen_ok]
   cases neg
   ·simp only [Bool.false_eq_true, if_false, run_eql_struct, hrun, Result.andThen_ok]
   ·simp only [if_true, run_neq_struct, hrun, Result.andThen_ok]
  ·exact h.elim
 ·exact h.elim
end Go.Rad
