/- Loads, stores, new boxes, addresses: what the machine does where the reduction's conditions hold. -/
import Derived.Test.YtapigofiboihiaaKRGlob
import Derived.Laws.StructEq
import Derived.Laws.MakeOwn
set_option linter.all false
namespace Go.Rad
open Go
variable {P : Program} {L : Lay}

def Runs (P : Program) (s : Sem Value) (G : Gh) (w : World) (T : AVal → Sto → Prop) : Prop :=
  ∃ G' w' v r sto', s.run P w = .ok v w' ∧ Ext G G' ∧ WOk G' w' ∧ StoOk G' w' sto' ∧ Rep G' true r v ∧ T r sto'

def RunsU (P : Program) (s : Sem Unit) (G : Gh) (w : World) (T : Sto → Prop) : Prop :=
  ∃ w' sto', s.run P w = .ok () w' ∧ WOk G w' ∧ StoOk G w' sto' ∧ T sto'

theorem Runs.pure {s : Sem Value} {G : Gh} {w : World} {sto : Sto} {T : AVal → Sto → Prop} {v : Value} {r : AVal} (hw : WOk G w) (hs : StoOk G w sto)
    (h : s.run P w = .ok v w) (hr : Rep G true r v) (hT : T r sto) : Runs P s G w T := ⟨G, w, v, r, sto, h, .refl G, hw, hs, hr, hT⟩

theorem addr_lit (b off n : Nat) : (⟨b, off, none⟩ : Addr).add n = ⟨b, off + n, none⟩ := by unfold Addr.add; split <;> simp_all

theorem run_isAgg {t : Nat} {i : TypeInfo} {d : TypeDesc} {z : Value} (k : Known P L t i d z) (w : World) : (isAgg t).run P w = .ok (L t).ag w := by
  unfold isAgg
  rw [Sem.run_bind, run_underlying k.und w, ← k.agg]
  simp only [Result.andThen_ok]
  cases d <;> rfl

theorem run_sizeOf' {t : Nat} {i : TypeInfo} {d : TypeDesc} {z : Value} (k : Known P L t i d z) (w : World) : (sizeOf t).run P w = .ok (L t).sz w := by
  simp [sizeOf, typeInfo, k.info, k.size]

/-- What a load of a variable of a type gives. -/
def ldv (ti : TI) (c : Array Value) (off : Nat) : Value := if ti.ag then .agg (c.extract off (off + ti.sz)) else c.getD off undef

theorem run_loadVar' {t : Nat} {i : TypeInfo} {d : TypeDesc} {z : Value} (k : Known P L t i d z) {w : World} {b off : Nat} {c : Array Value} {e : TypeId} {fr : Nat × Nat}
    (hb : w.heap[b]? = some (.cells c e fr)) (hsz : 0 < (L t).sz) (hfit : off + (L t).sz ≤ c.size) :
    (loadVar t ⟨b, off, none⟩).run P w = .ok (ldv (L t) c off) w := by
  unfold loadVar
  rw [Sem.run_bind, run_isAgg k w]
  simp only [Result.andThen_ok]
  unfold ldv
  cases hag : (L t).ag with
  | true =>
    have hl : (loadCells ⟨b, off, none⟩ (c.extract off (off + (L t).sz)).toList.length).run P w = .ok (c.extract off (off + (L t).sz)).toList.toArray w :=
      run_loadCells_list w _ _ (fun j v hv => by
        rw [addr_lit, cell_of_row w b (off + j) c e fr hb]
        simp only [Array.getElem?_toList, Array.getElem?_extract] at hv
        split at hv
        · exact hv
        · cases hv)
    have hlen : (c.extract off (off + (L t).sz)).toList.length = (L t).sz := by simp; omega
    rw [hlen, Array.toArray_toList] at hl
    simp only [if_true, Sem.run_bind, run_sizeOf' k w, Result.andThen_ok, hl, Sem.run_pure]
  | false =>
    have hc : w.cell? ⟨b, off, none⟩ = some (c.getD off undef) := by
      rw [cell_of_row w b off c e fr hb]
      have : off < c.size := by omega
      simp [this]
    simp [hc]

theorem rep_mkv {G : Gh} {o : Bool} {ti : TI} {cs : List AVal} {c : Array Value} {off : Nat} (hsz : 0 < ti.sz) (hl : ti.sz ≤ cs.length) (hfit : off + ti.sz ≤ c.size)
    (h : ∀ (j : Nat) (x : AVal), cs[j]? = some x → x.isCell = true ∧ Rep G o x (c.getD (off + j) undef)) : Rep G o (mkv ti cs) (ldv ti c off) := by
  unfold mkv ldv
  cases hag : ti.ag with
  | true =>
    simp only [if_true]
    refine .agg (by simp; omega) (fun j x hx => ?_) (fun j x hx => ?_)
    · rw [List.getElem?_take] at hx
      split at hx
      · exact (h j x hx).1
      · cases hx
    · rw [List.getElem?_take] at hx
      split at hx
      · rename_i hj
        have := (h j x hx).2
        have he : (c.extract off (off + ti.sz)).getD j undef = c.getD (off + j) undef := by
          simp only [Array.getD_eq_getD_getElem?, Array.getElem?_extract]
          rw [if_pos (by omega)]
        rw [he]; exact this
      · cases hx
  | false =>
    cases cs with
    | nil => simp at hl; omega
    | cons x xs => simpa using (h 0 x rfl).2

theorem Rep.box_inv {G : Gh} {id g off : Nat} {v : Value} (h : Rep G true (.bx id g off) v) : ∃ b cap esz, G.M id g = some ⟨some b, cap, esz⟩ ∧ v = .pointer (some ⟨b, off, none⟩) := by
  cases h with | bx a => exact ⟨_, _, _, a, rfl⟩

theorem Rep.loc_inv {G : Gh} {id g i off : Nat} {v : Value} (h : Rep G true (.loc id g i off) v) :
    ∃ b cap esz, G.M id g = some ⟨some b, cap, esz⟩ ∧ v = .pointer (some ⟨b, i * esz + off, none⟩) := by
  cases h with | loc a => exact ⟨_, _, _, a, rfl⟩

theorem Rep.ref_inv' {G : Gh} {o q : Bool} {cs : List AVal} {v : Value} (h : Rep G o (.ref q cs) v) :
    ∃ b off c e fr, v = .pointer (some ⟨b, off, none⟩) ∧ G.ok q b ∧ G.F b = some (.cells c e fr) ∧ off + cs.length ≤ c.size ∧
      ∀ (j : Nat) (x : AVal), cs[j]? = some x → x.isCell = true ∧ Rep G false x (c.getD (off + j) Go.undef) := by
  cases h with | ref a b c d e => exact ⟨_, _, _, _, _, rfl, a, b, c, fun j x hx => ⟨d j x hx, e j x hx⟩⟩

/-- An own row, whose block is there. -/
theorem row_at {G : Gh} {w : World} {id g esz : Nat} {l : List (List AVal)} (h : ObjOk G w id g (.row esz l)) {b cap e' : Nat} (hM : G.M id g = some ⟨some b, cap, e'⟩) :
    e' = esz ∧ l.length ≤ cap ∧ G.F b = none ∧ ∃ c e, RowAt w b c e ∧ c.size = cap * esz ∧ (∀ (i : Nat) (x : List AVal), l[i]? = some x → x.length = esz) ∧
      ∀ (i j : Nat) (x : List AVal) (y : AVal), l[i]? = some x → x[j]? = some y → y.isCell = true ∧ Rep G false y (c.getD (i * esz + j) undef) := by
  obtain ⟨ob, cap', h1, h2, h3, h4, h5, h6, h7, h8⟩ := h
  rw [hM] at h1
  simp only [Option.some.injEq, Hd.mk.injEq] at h1
  obtain ⟨rfl, rfl, rfl⟩ := h1
  obtain ⟨a1, a2, c, e, a3, a4, a5⟩ := h8 b rfl
  exact ⟨rfl, h2, a1, c, e, a3, a4, h5, fun i j x y hx hy => ⟨h6 i j x y hx hy, a5 i j x y hx hy⟩⟩

theorem box_at {G : Gh} {w : World} {id g : Nat} {cs : List AVal} (h : ObjOk G w id g (.box cs)) {b cap e' : Nat} (hM : G.M id g = some ⟨some b, cap, e'⟩) :
    G.F b = none ∧ ∃ c e, w.heap[b]? = some (.cells c e (0, 0)) ∧ c.size = cs.length ∧ ∀ (j : Nat) (x : AVal), cs[j]? = some x → x.isCell = true ∧ Rep G true x (c.getD j undef) := by
  obtain ⟨b', cap', esz, h1, h2, c, e, h3, h4, h5, h6⟩ := h
  rw [hM] at h1
  simp only [Option.some.injEq, Hd.mk.injEq] at h1
  obtain ⟨rfl, _, _⟩ := h1
  exact ⟨h2, c, e, h3, h4, fun j x hx => ⟨h5 j x hx, h6 j x hx⟩⟩

theorem mul_room {i n cap esz : Nat} (h : i < n) (hn : n ≤ cap) : i * esz + esz ≤ cap * esz := by
  have : (i + 1) * esz ≤ cap * esz := Nat.mul_le_mul_right _ (by omega)
  rwa [Nat.add_mul, Nat.one_mul] at this

theorem load_core (hL : LOk P L) {t : Nat} (ht : (L t).ty ≠ .other) {x : AVal} {v : Value} {G : Gh} {w : World} {sto : Sto} {T : AVal → Prop} (hw : WOk G w) (hs : StoOk G w sto)
    (hx : Rep G true x v) (h : vcLoad L t x sto T) : ∃ ad u r, v = .pointer (some ad) ∧ (loadVar t ad).run P w = .ok u w ∧ Rep G true r u ∧ T r := by
  obtain ⟨i, d, z, k⟩ := hL.known ht
  unfold vcLoad at h
  split at h
  · rename_i id g off
    obtain ⟨b, cap, esz, hM, rfl⟩ := hx.box_inv
    split at h
    · rename_i g' cs hget
      obtain ⟨rfl, h1, h2, h3⟩ := h
      obtain ⟨_, c, e, hb, hc, hj⟩ := box_at (hs.obj _ _ _ hget) hM
      have hfit : off + (L t).sz ≤ c.size := by omega
      refine ⟨_, _, _, rfl, run_loadVar' k hb h2 hfit, (rep_mkv h2 (by simp; omega) hfit fun j x hx => ?_), h3⟩
      exact hj (off + j) x (by simpa using hx)
    · exact h.elim
  · rename_i id g i' off
    obtain ⟨b, cap, esz', hM, rfl⟩ := hx.loc_inv
    split at h
    · rename_i g' esz l hget
      obtain ⟨rfl, h1, h2, h3, h4⟩ := h
      obtain ⟨he, hcap, _, c, e, ⟨fr, hb, _⟩, hc, hlen, hj⟩ := row_at (hs.obj _ _ _ hget) hM
      subst he
      obtain ⟨y, hy⟩ : ∃ y, l[i']? = some y := ⟨l[i'], by simp [h1]⟩
      have hyl := hlen i' y hy
      have hroom := mul_room (esz := esz') h1 hcap
      have hfit : i' * esz' + off + (L t).sz ≤ c.size := by omega
      refine ⟨_, _, _, rfl, run_loadVar' k hb h3 hfit, ((rep_mkv (o := false) h3 (by simp; omega) hfit fun j x hx => ?_).up), h4 y hy⟩
      have := hj i' (off + j) y x hy (by simpa using hx)
      rwa [← Nat.add_assoc] at this
    · exact h.elim
  · rename_i q cs
    obtain ⟨h1, h2, h3⟩ := h
    obtain ⟨b, off, c, e, fr, rfl, _, hF, hfit, hj⟩ := (Rep.ref_inv' hx)
    have hb := hw.F _ _ hF
    have hfit' : off + (L t).sz ≤ c.size := by omega
    exact ⟨_, _, _, rfl, run_loadVar' k hb h2 hfit', (rep_mkv (o := false) h2 h1 hfit' hj).up, h3⟩
  · exact h.elim

theorem load_sound (hL : LOk P L) {t : Nat} (ht : (L t).ty ≠ .other) {x : AVal} {v : Value} {G : Gh} {w : World} {sto : Sto} {T : AVal → Prop} (hw : WOk G w) (hs : StoOk G w sto)
    (hx : Rep G true x v) (h : vcLoad L t x sto T) : Runs P (Instr.loadAt t v) G w fun r s => T r ∧ s = sto := by
  obtain ⟨ad, u, r, rfl, h1, h2, h3⟩ := load_core hL ht hw hs hx h
  exact Runs.pure hw hs (by simp [Instr.loadAt, Instr.sureAddr, h1]) h2 ⟨h3, rfl⟩

/-- The cells of a value that is stored whole. -/
theorem rep_cells {G : Gh} {o : Bool} {x : AVal} {v : Value} (hx : Rep G o x v) (hwhole : x.isWhole = true) :
    v.cells.size = (cellsOf x).length ∧ ∀ (j : Nat) (y : AVal), (cellsOf x)[j]? = some y → y.isCell = true ∧ ∃ u, v.cells.toList[j]? = some u ∧ Rep G o y u := by
  by_cases hc : x.isCell = true
  · have hv := hx.oneCell hc
    have e1 : cellsOf x = [x] := by cases x <;> first | rfl | simp [AVal.isCell] at hc
    have e2 : v.cells = #[v] := by cases v <;> first | rfl | simp [Value.oneCell'] at hv
    rw [e1, e2]
    refine ⟨rfl, fun j y hy => ?_⟩
    cases j with
    | zero => simp at hy; subst hy; exact ⟨hc, v, rfl, hx⟩
    | succ j => simp at hy
  · cases x with
    | agg cs =>
      cases hx with
      | @agg _ _ c a b d =>
        refine ⟨a, fun j y hy => ⟨b j y hy, c.getD j undef, ?_, d j y hy⟩⟩
        have hj : j < c.size := by
          rw [a]
          rcases Nat.lt_or_ge j cs.length with h | h
          · exact h
          · simp only [cellsOf] at hy; rw [List.getElem?_eq_none h] at hy; cases hy
        simp [Value.cells, hj]
    | _ => first | exact absurd rfl hc | (simp [AVal.isWhole, AVal.isCell] at hwhole)

theorem cells_oneCell {G : Gh} {o : Bool} {x : AVal} {v : Value} (hx : Rep G o x v) (hwhole : x.isWhole = true) : ∀ u ∈ v.cells.toList, u.oneCell' = true := by
  intro u hu
  obtain ⟨h1, h2⟩ := rep_cells hx hwhole
  obtain ⟨j, hj, rfl⟩ := List.getElem_of_mem hu
  have hj' : j < (cellsOf x).length := by rw [← h1]; simpa using hj
  obtain ⟨hc, u', hu', hr⟩ := h2 j (cellsOf x)[j] (by simp [hj'])
  have : u' = v.cells.toList[j] := by
    rw [List.getElem?_eq_getElem hj] at hu'
    exact (Option.some.inj hu').symm
  rw [← this]
  exact hr.oneCell hc

theorem splice_get (cs : List AVal) (off : Nat) (vs : List AVal) (h : off + vs.length ≤ cs.length) (j : Nat) :
    (splice cs off vs)[j]? = if off ≤ j ∧ j < off + vs.length then vs[j - off]? else cs[j]? := by
  unfold splice
  simp only [List.append_assoc, List.getElem?_append, List.getElem?_take, List.length_take, List.getElem?_drop]
  have hm : min off cs.length = off := by omega
  rw [hm]
  by_cases h1 : j < off
  · rw [if_pos h1, if_pos h1, if_neg (by omega)]
  · rw [if_neg h1]
    by_cases h2 : j - off < vs.length
    · rw [if_pos h2, if_pos (by omega)]
    · rw [if_neg h2, if_neg (by omega)]
      congr 1; omega

theorem splice_length (cs : List AVal) (off : Nat) (vs : List AVal) (h : off + vs.length ≤ cs.length) : (splice cs off vs).length = cs.length := by
  unfold splice; simp; omega

theorem splice_size (c : Array Value) (off : Nat) (vs : List Value) (h : off + vs.length ≤ c.size) : ((c.toList.take off ++ vs ++ c.toList.drop (off + vs.length)).toArray).size = c.size := by
  simp; omega

theorem splice_getD (c : Array Value) (off : Nat) (vs : List Value) (h : off + vs.length ≤ c.size) (j : Nat) :
    ((c.toList.take off ++ vs ++ c.toList.drop (off + vs.length)).toArray).getD j undef = if off ≤ j ∧ j < off + vs.length then vs.getD (j - off) undef else c.getD j undef := by
  simp only [Array.getD_eq_getD_getElem?, List.getElem?_toArray, List.append_assoc, List.getElem?_append, List.getElem?_take, List.length_take, List.getElem?_drop, Array.length_toList,
    List.getD_eq_getElem?_getD, Array.getElem?_toList]
  have hm : min off c.size = off := by omega
  rw [hm]
  by_cases h1 : j < off
  · rw [if_pos h1, if_pos h1, if_neg (by omega)]
  · rw [if_neg h1]
    by_cases h2 : j - off < vs.length
    · rw [if_pos h2, if_pos (by omega)]
    · rw [if_neg h2, if_neg (by omega)]
      congr 2; omega

/-- Cells are stored in a row whose mark lies behind its end. -/
theorem storeCells_row (P : Program) (g o : Nat) (t : TypeId) (fz : Nat × Nat) : ∀ (vs : List Value) (i : Nat) (cur : Array Value) (w : World), w.heap[g]? = some (.cells cur t fz) → (fz.2 = 0 ∨ cur.size ≤ fz.1) → o + i + vs.length ≤ cur.size → (∀ v ∈ vs, v.oneCell' = true) →
    (storeCells ⟨g, o, none⟩ vs i).run P w = .ok () (w.setRow g (cur.toList.take (o + i) ++ vs ++ cur.toList.drop (o + i + vs.length)).toArray)
  | [], i, cur, w, hg, _, _, _ => by
    simp only [storeCells, List.append_nil, List.length_nil, Nat.add_zero, List.take_append_drop, Array.toArray_toList]
    rw [setRow_self w g cur t fz hg]
    rfl
  | v :: rest, i, cur, w, hg, hfz, hl, h1 => by
    have hi : o + i < cur.size := by simp at hl; omega
    have hadd : (⟨g, o, none⟩ : Addr).add i = ⟨g, o + i, none⟩ := by unfold Addr.add; split <;> simp_all
    have hcell : w.cell? ⟨g, o + i, none⟩ = some cur[o + i] := by simp [World.cell?, hg, hi]
    have hfro : w.frozen? ⟨g, o + i, none⟩ = false := by
      obtain ⟨lo, hi'⟩ := fz
      simp only at hfz
      simp only [World.frozen?, hg, Bool.and_eq_false_iff, decide_eq_false_iff_not]
      omega
    have hst : (store ((⟨g, o, none⟩ : Addr).add i) v).run P w = .ok () (w.setRow g (cur.setIfInBounds (o + i) v)) := by
      rw [hadd, run_store P w _ v _ (h1 v (by simp)), hcell]
      simp [hfro, setCell_eq_setRow w g (o + i) cur t fz v hg]
    have ih := storeCells_row P g o t fz rest (i + 1) (cur.setIfInBounds (o + i) v) (w.setRow g (cur.setIfInBounds (o + i) v)) (setRow_heap w g cur _ t _ hg) (by simpa using hfz) (by simp at hl ⊢; omega) (fun x hx => h1 x (by simp [hx]))
    simp only [storeCells, Sem.run_bind, hst, Result.andThen_ok, ih, setRow_setRow]
    congr 3
    have e := list_seg_step cur.toList (o + i) v rest (by simp at hl ⊢; omega)
    simpa [Array.toList_setIfInBounds, Nat.add_assoc] using e
theorem run_storeVarF {t : Nat} {i : TypeInfo} {d : TypeDesc} {z : Value} (k : Known P L t i d z) {w : World} {b off : Nat} {c : Array Value} {e : TypeId} {v : Value} {fr : Nat × Nat}
    (hb : w.heap[b]? = some (.cells c e fr)) (hfr : fr.2 = 0 ∨ c.size ≤ fr.1) (hv : v.cells.size = (L t).sz) (hfit : off + (L t).sz ≤ c.size) (h1 : ∀ u ∈ v.cells.toList, u.oneCell' = true) :
    (storeVar t ⟨b, off, none⟩ v).run P w = .ok () (w.setRow b (c.toList.take off ++ v.cells.toList ++ c.toList.drop (off + v.cells.toList.length)).toArray) := by
  have hst := storeCells_row P b off e fr v.cells.toList 0 c w hb hfr (by simp; omega) h1
  simp only [Nat.add_zero] at hst
  simp [storeVar, run_sizeOf' k w, hv, hst]
theorem run_storeVar' {t : Nat} {i : TypeInfo} {d : TypeDesc} {z : Value} (k : Known P L t i d z) {w : World} {b off : Nat} {c : Array Value} {e : TypeId} {v : Value}
    (hb : w.heap[b]? = some (.cells c e (0, 0))) (hv : v.cells.size = (L t).sz) (hfit : off + (L t).sz ≤ c.size) (h1 : ∀ u ∈ v.cells.toList, u.oneCell' = true) :
    (storeVar t ⟨b, off, none⟩ v).run P w = .ok () (w.setRow b (c.toList.take off ++ v.cells.toList ++ c.toList.drop (off + v.cells.toList.length)).toArray) := by
  have hst := run_storeCells_at P b off e v.cells.toList 0 c w hb (by simp; omega) h1
  simp only [Nat.add_zero] at hst
  simp [storeVar, run_sizeOf' k w, hv, hst]

theorem nrm1ucell {x : AVal} : (nrm1 x).isCell = x.isCell := by cases x <;> rfl
theorem nrm1ufz {x : AVal} : (nrm1 x).isFz = x.isFz := by cases x <;> rfl
theorem Rep.nrm1 {G : Gh} {o : Bool} {x : AVal} {v : Value} (h : Rep G o x v) : Rep G o (nrm1 x) v := by
  cases h with
  | slnil a => exact .slnil fun h => by cases h
  | sl a b c d e f g h i => exact .sl a (fun h => by cases h) c d e f g h i
  | bool => exact .bool
  | int a => exact .int a
  | str a => exact .str a
  | nil => exact .nil
  | ref a b c d e => exact .ref a b c d e
  | fn a b => exact .fn a b
  | nilfn => exact .nilfn
  | nilmap => exact .nilmap
  | agg a b c => exact .agg a b c
  | tup a b => exact .tup a b
  | loc a => exact .loc a
  | bx a => exact .bx a
  | osl a b c d e f => exact .osl a b c d e f
  | map a => exact .map a
  | opt a => exact .opt a
  | undef => exact .undef
theorem Rep.nrmV {G : Gh} {o : Bool} {x : AVal} {v : Value} (h : Rep G o x v) : Rep G o (nrmV x) v := by
  cases x with
  | agg cs =>
    cases h with
    | agg a b c =>
      refine .agg (by simpa using a) (fun j y hy => ?_) fun j y hy => ?_
      · rw [List.getElem?_map] at hy
        obtain ⟨x, hx, rfl⟩ := Option.map_eq_some_iff.1 hy
        rw [nrm1ucell]; exact b j x hx
      · rw [List.getElem?_map] at hy
        obtain ⟨x, hx, rfl⟩ := Option.map_eq_some_iff.1 hy
        exact (c j x hx).nrm1
  | _ => exact h.nrm1

theorem store_sound (hL : LOk P L) {t : Nat} (ht : (L t).ty ≠ .other) {x y : AVal} {v u : Value} {G : Gh} {w : World} {sto : Sto} {T : Sto → Prop} (hw : WOk G w) (hs : StoOk G w sto)
    (hx : Rep G true x v) (hy : Rep G true y u) (h : vcStore L t x y sto T) : RunsU P (Instr.storeAt t v u) G w T := by
  obtain ⟨i, d, z, k⟩ := hL.known ht
  obtain ⟨hwhole, hlen, h⟩ := h
  obtain ⟨hc1, hc2⟩ := rep_cells hy hwhole
  have hone := cells_oneCell hy hwhole
  have hsz : u.cells.size = (L t).sz := by omega
  have hull : u.cells.toList.length = (L t).sz := by simpa using hsz
  split at h
  · rename_i id g off
    obtain ⟨b, cap, esz, hM, rfl⟩ := hx.box_inv
    split at h
    · rename_i g' cs hget
      obtain ⟨rfl, h1, h3⟩ := h
      obtain ⟨hF, c, e, hb, hc, hj⟩ := box_at (hs.obj _ _ _ hget) hM
      have hfit : off + (L t).sz ≤ c.size := by omega
      have hrun := run_storeVar' k hb hsz hfit hone
      have hbk : blkOf G id g' = some b := by simp [blkOf, hM]
      obtain ⟨hw', hs'⟩ := sto_write (w' := w.setRow b (c.toList.take off ++ u.cells.toList ++ c.toList.drop (off + u.cells.toList.length)).toArray) (o' := .box (splice cs off (cellsOf y))) (Kept.setRow _ _ _) hw hs hget (by simp)
        (fun b' _ hne => setRow_other w b b' _ (fun e => hne (by rw [hbk, e])))
        ⟨b, cap, esz, hM, hF, _, e, setRow_heap w b c _ e _ hb, by
          rw [splice_size c off _ (by omega), splice_length cs off _ (by omega)]; exact hc, fun j x hx => by
          rw [splice_get cs off _ (by omega)] at hx
          split at hx
          · exact (hc2 _ _ hx).1
          · exact (hj j x hx).1, fun j x hx => by
          rw [splice_get cs off _ (by omega)] at hx
          rw [splice_getD c off _ (by omega)]
          split at hx
          · rename_i hin
            rw [if_pos (by omega)]
            obtain ⟨_, u', hu', hr⟩ := hc2 _ _ hx
            simp only [List.getD_eq_getElem?_getD, hu', Option.getD_some]
            exact hr
          · rename_i hin
            rw [if_neg (by omega)]
            exact (hj j x hx).2⟩
      exact ⟨_, _, by simp [Instr.storeAt, Instr.sureAddr, hrun], hw', hs', h3⟩
    · exact h.elim
  · rename_i id g i' off
    obtain ⟨b, cap, esz', hM, rfl⟩ := hx.loc_inv
    split at h
    · rename_i g' esz l hget
      obtain ⟨rfl, h1, h2, h3, h4⟩ := h
      have hobj := hs.obj _ _ _ hget
      obtain ⟨he, hcap, hF, c, e, ⟨fr, hb, hfr⟩, hc, hle, hj⟩ := row_at hobj hM
      subst he
      obtain ⟨y', hy'⟩ : ∃ y', l[i']? = some y' := ⟨l[i'], by simp [h1]⟩
      have hyl := hle i' y' hy'
      have hroom := mul_room (esz := esz') h1 hcap
      have hfit : i' * esz' + off + (L t).sz ≤ c.size := by omega
      have hrun := run_storeVarF k hb hfr hsz hfit hone
      have hbk : blkOf G id g' = some b := by simp [blkOf, hM]
      obtain ⟨ob, cap', hM', a2, a3, a4, a5, a6, a7, a8⟩ := hobj
      have hMM := hM'
      rw [hM] at hM'
      simp only [Option.some.injEq, Hd.mk.injEq, and_true] at hM'
      obtain ⟨rfl, rfl⟩ := hM'
      have hspl : ∀ (n : Nat) (x : List AVal), (l.set i' (splice y' off (cellsOf y)))[n]? = some x → x.length = esz' := by
        intro n x hx
        rw [List.getElem?_set] at hx
        split at hx
        · (try rw [if_pos h1] at hx)
          simp only [Option.some.injEq] at hx
          subst hx
          rw [splice_length y' off _ (by omega)]; exact hyl
        · exact a5 n x hx
      obtain ⟨hw', hs'⟩ := sto_write (w' := w.setRow b (c.toList.take (i' * esz' + off) ++ u.cells.toList ++ c.toList.drop (i' * esz' + off + u.cells.toList.length)).toArray) (o' := .row esz' (l.set i' (splice y' off (cellsOf y)))) (Kept.setRow _ _ _) hw hs hget (by simp)
        (fun b' _ hne => setRow_other w b b' _ (fun e => hne (by rw [hbk, e])))
        ⟨some b, cap, hMM, by simpa using a2, by simpa using a3, a4, hspl, fun n j x yy hx hy2 => by
          rw [List.getElem?_set] at hx
          split at hx
          · (try rw [if_pos h1] at hx)
            simp only [Option.some.injEq] at hx
            subst hx
            rw [splice_get y' off _ (by omega)] at hy2
            split at hy2
            · exact (hc2 _ _ hy2).1
            · exact a6 i' j y' yy hy' hy2
          · exact a6 n j x yy hx hy2, fun h => (by cases h), fun b' hb' => by
          simp only [Option.some.injEq] at hb'
          subst hb'
          have hspc := splice_size c (i' * esz' + off) u.cells.toList (by simp; omega)
          refine ⟨hF, (a8 b rfl).2.1, _, e, ⟨fr, setRow_heap w b c _ e fr hb, by rw [hspc]; exact hfr⟩, by rw [hspc]; exact hc, fun n j x yy hx hy2 => ?_⟩
          have hxl := hspl n x hx
          have hjlt : j < esz' := by
            rcases Nat.lt_or_ge j x.length with h | h
            · omega
            · rw [List.getElem?_eq_none h] at hy2; cases hy2
          rw [splice_getD c _ _ (by omega)]
          rw [List.getElem?_set] at hx
          by_cases hni : i' = n
          · subst hni
            (first | rw [if_pos rfl, if_pos h1] at hx | rw [if_pos rfl] at hx)
            simp only [Option.some.injEq] at hx
            subst hx
            rw [splice_get y' off _ (by omega)] at hy2
            split at hy2
            · rename_i hin
              rw [if_pos (by omega)]
              obtain ⟨_, u', hu', hr⟩ := hc2 _ _ hy2
              have hfz : yy.isFz = true := List.all_eq_true.1 h3 yy (List.mem_of_getElem? hy2)
              have e1 : i' * esz' + j - (i' * esz' + off) = j - off := by omega
              simp only [e1, List.getD_eq_getElem?_getD, hu', Option.getD_some]
              exact hr.down hfz
            · rename_i hin
              rw [if_neg (by omega)]
              exact (hj i' j y' yy hy' hy2).2
          · rw [if_neg hni] at hx
            rw [if_neg ?_]
            · exact (hj n j x yy hx hy2).2
            · rcases Nat.lt_or_gt_of_ne hni with h | h
              · have : (i' + 1) * esz' ≤ n * esz' := Nat.mul_le_mul_right _ (by omega)
                rw [Nat.add_mul, Nat.one_mul] at this
                omega
              · have : (n + 1) * esz' ≤ i' * esz' := Nat.mul_le_mul_right _ (by omega)
                rw [Nat.add_mul, Nat.one_mul] at this
                omega⟩
      exact ⟨_, _, by simp [Instr.storeAt, Instr.sureAddr, hrun], hw', hs', h4 y' hy'⟩
    · exact h.elim
  · exact h.elim

theorem store_soundN (hL : LOk P L) {t : Nat} (ht : (L t).ty ≠ .other) {x y : AVal} {v u : Value} {G : Gh} {w : World} {sto : Sto} {T : Sto → Prop} (hw : WOk G w) (hs : StoOk G w sto)
    (hx : Rep G true x v) (hy : Rep G true y u) (h : vcStoreN L t x y sto T) : RunsU P (Instr.storeAt t v u) G w T := by
  unfold vcStoreN at h
  split at h
  · exact store_sound hL ht hw hs hx hy.nrmV h
  · exact store_sound hL ht hw hs hx hy h

/-- A new block for a box. -/
theorem newbox_sound {G : Gh} {w : World} {sto : Sto} {d : Nat} {cs : List AVal} {c : Array Value} {e : TypeId} (hw : WOk G w) (hs : StoOk G w sto) (hc : c.size = cs.length)
    (h1 : ∀ (j : Nat) (x : AVal), cs[j]? = some x → x.isCell = true ∧ Rep G true x (c.getD j undef)) :
    ∃ G', Ext G G' ∧ WOk G' (w.alloc (.cells c e)) ∧ StoOk G' (w.alloc (.cells c e)) (sput sto d (G.N, .box cs)) ∧ Rep G' true (.bx d G.N 0) (.pointer (some ⟨w.heap.size, 0, none⟩)) := by
  have hx := newG_ext hw d ⟨some w.heap.size, 0, 1⟩
  obtain ⟨a, b, c'⟩ := sto_put (w' := w.alloc (.cells c e)) (id := d) (o := .box cs) (hd := ⟨some w.heap.size, 0, 1⟩) (Kept.alloc _ _ _) hw hs (by simp) (fun b hb _ => heap_alloc_old w _ b hb)
    (fun b hb => by simp only [Option.some.injEq] at hb; subst hb; exact ⟨by simp, .inl (Nat.le_refl _)⟩)
    ⟨w.heap.size, 0, 1, newG_M _ _ _, by
      cases hF : G.F w.heap.size with
      | none => exact hF
      | some o => have := (Array.getElem?_eq_some_iff.1 (hw.F _ _ hF)).1; omega, c, e, heap_alloc_new w _, hc, fun j x hj => (h1 j x hj).1, fun j x hj => (h1 j x hj).2.mono hx.toMono⟩
  exact ⟨_, a, b, c', .bx (newG_M _ _ _)⟩

theorem box_sound {t d : Nat} {x : AVal} {v : Value} {G : Gh} {w : World} {sto : Sto} {T : AVal → Sto → Prop} (hw : WOk G w) (hs : StoOk G w sto)
    (hx : Rep G true x v) (h : x.isWhole = true ∧ (cellsOf x).length = (L t).sz ∧ 0 < (L t).sz ∧ ∀ h, T (.bx d h 0) (sput sto d (h, .box (cellsOf x)))) : Runs P (Instr.box t v) G w T := by
  obtain ⟨h1, _, _, h4⟩ := h
  obtain ⟨hc1, hc2⟩ := rep_cells hx h1
  obtain ⟨G', a, b, c, r⟩ := newbox_sound (d := d) (e := t) hw hs hc1 (fun j y hj => by
    obtain ⟨e1, u, hu, hr⟩ := hc2 j y hj
    refine ⟨e1, ?_⟩
    have : v.cells.getD j undef = u := by
      simp only [Array.getElem?_toList] at hu
      simp [hu]
    rw [this]; exact hr)
  exact ⟨G', _, _, _, _, by simp [Instr.box, newVar, newRow], a, b, c, r, h4 _⟩

theorem alloc_sound (hL : LOk P L) {t d : Nat} (ht : (L t).ty ≠ .other) {G : Gh} {w : World} {sto : Sto} {T : AVal → Sto → Prop} (hw : WOk G w) (hs : StoOk G w sto)
    (h : 0 < (L t).sz ∧ ∀ h, T (.bx d h 0) (sput sto d (h, .box (L t).zero))) : Runs P (Instr.alloc t true (.tuple #[])) G w T := by
  obtain ⟨i, dd, z, k⟩ := hL.known ht
  have hl := zerosAre_length _ _ k.zeros
  obtain ⟨G', a, b, c, r⟩ := newbox_sound (d := d) (e := t) (c := z.cells) hw hs (by simpa using hl.symm) (fun j y hj => by
    obtain ⟨u, hu, hz⟩ := zerosAre_get _ _ k.zeros j y hj
    have hr := zeroIs_rep (G := G) hz
    have : z.cells.getD j undef = u := by
      simp only [Array.getElem?_toList] at hu
      simp [hu]
    rw [this]; exact ⟨hr.1, hr.2.2.up⟩)
  exact ⟨G', _, _, _, _, by simp [Instr.alloc, zeroValue, typeInfo, k.info, k.zero, newVar, newRow], a, b, c, r, h.2 _⟩
end Go.Rad
/- Addresses, indexes, lengths, numbers, texts: what the machine does where the reduction's conditions hold. -/
namespace Go.Rad
open Go
variable {P : Program} {L : Lay}

theorem desc_struct {t : Nat} {i : TypeInfo} {d : TypeDesc} {z : Value} (k : Known P L t i d z) {f o ft : Nat} (h : foff (L t) f = some (o, ft)) :
    ∃ gs fd, d = .struct gs ∧ gs[f]? = some fd ∧ fd.offset = o ∧ fd.type = ft ∧ 0 < (L ft).sz ∧ (L ft).ty ≠ .other := by
  have hd := k.desc
  unfold foff at h
  split at h
  · rename_i fs hfs
    rw [hfs] at hd
    cases d <;> simp [descIs] at hd
    rename_i gs
    obtain ⟨fd, a1, a2, a3, a4, a5⟩ := fieldsAre_get fs gs.toList hd f o ft h
    exact ⟨gs, fd, rfl, by simpa using a1, a2, a3, a4, a5⟩
  · cases h

theorem rep_drop {G : Gh} {q : Bool} {cs : List AVal} {b off : Nat} {c : Array Value} {e : TypeId} {fr : Nat × Nat} {o : Nat} (hq : G.ok q b) (hF : G.F b = some (.cells c e fr)) (hfit : off + cs.length ≤ c.size)
    (ho : o ≤ cs.length) (hj : ∀ (j : Nat) (x : AVal), cs[j]? = some x → x.isCell = true ∧ Rep G false x (c.getD (off + j) Go.undef)) :
    Rep G true (.ref q (cs.drop o)) (.pointer (some ⟨b, off + o, none⟩)) := by
  refine .ref hq hF (by simp; omega) (fun j x hx => ?_) (fun j x hx => ?_)
  · exact (hj (o + j) x (by simpa using hx)).1
  · have := (hj (o + j) x (by simpa using hx)).2
    rwa [← Nat.add_assoc] at this

theorem fieldAddr_sound (hL : LOk P L) {t f : Nat} (ht : (L t).ty ≠ .other) {x : AVal} {v : Value} {G : Gh} {w : World} {sto : Sto} {T : AVal → Prop} (hw : WOk G w) (hs : StoOk G w sto)
    (hx : Rep G true x v) (h : vcField (L t) x f T) : Runs P (Instr.fieldAt t v f) G w fun r s => T r ∧ s = sto := by
  obtain ⟨i, d, z, k⟩ := hL.known ht
  unfold vcField at h
  split at h
  · rename_i o ft hf
    obtain ⟨gs, fd, rfl, hfd, hoff, hty, hsz, hft⟩ := desc_struct k hf
    obtain ⟨i2, d2, z2, k2⟩ := hL.known hft
    have hne : i2.size ≠ 0 := by rw [k2.size]; omega
    have hu := k.und
    have hrun : ∀ a : Addr, (Instr.fieldAt t (.pointer (some a)) f).run P w = .ok (.pointer (some (a.add o))) w := by
      intro a
      subst hty
      simp only [Instr.fieldAt, Sem.run_bind, run_underlying hu w, Result.andThen_ok, hfd, Instr.sureAddr, Sem.run_pure, fieldPlace, run_sizeOf' k2 w, hoff]
      rw [if_neg (by omega)]
      rfl
    split at h
    · obtain ⟨b, cap, esz, hM, rfl⟩ := hx.box_inv
      exact Runs.pure hw hs (by rw [hrun, addr_lit]) (.bx hM) ⟨h, rfl⟩
    · obtain ⟨b, cap, esz, hM, rfl⟩ := hx.loc_inv
      exact Runs.pure hw hs (by rw [hrun, addr_lit, Nat.add_assoc]) (.loc hM) ⟨h, rfl⟩
    · obtain ⟨b, off, c, e, fr, rfl, hq, hF, hfit, hj⟩ := Rep.ref_inv' hx
      exact Runs.pure hw hs (by rw [hrun, addr_lit]) (rep_drop hq hF hfit h.1 hj) ⟨h.2, rfl⟩
    · exact h.elim
  · exact h.elim

theorem run_part {t : Nat} {i : TypeInfo} {d : TypeDesc} {z : Value} (k : Known P L t i d z) {w : World} {c : Array Value} {off : Nat} (hsz : 0 < (L t).sz) (hfit : off + (L t).sz ≤ c.size) :
    (part t c off).run P w = .ok (ldv (L t) c off) w := by
  unfold part ldv
  rw [Sem.run_bind, run_isAgg k w]
  simp only [Result.andThen_ok]
  cases hag : (L t).ag with
  | true => simp only [if_true, Sem.run_bind, run_sizeOf' k w, Result.andThen_ok, Sem.run_pure]
  | false =>
    have : off < c.size := by omega
    simp [this]

theorem Rep.agg_inv' {G : Gh} {o : Bool} {cs : List AVal} {v : Value} (h : Rep G o (.agg cs) v) :
    ∃ c, v = .agg c ∧ c.size = cs.length ∧ ∀ (j : Nat) (x : AVal), cs[j]? = some x → x.isCell = true ∧ Rep G o x (c.getD j Go.undef) := by
  cases h with | agg a b c => exact ⟨_, rfl, a, fun j x hx => ⟨b j x hx, c j x hx⟩⟩

theorem fieldOf_sound (hL : LOk P L) {t f : Nat} (ht : (L t).ty ≠ .other) {x : AVal} {v : Value} {G : Gh} {w : World} {sto : Sto} {T : AVal → Prop} (hw : WOk G w) (hs : StoOk G w sto)
    (hx : Rep G true x v) (h : vcFieldOf L t x f T) : Runs P (Instr.field t v f) G w fun r s => T r ∧ s = sto := by
  obtain ⟨i, d, z, k⟩ := hL.known ht
  unfold vcFieldOf at h
  split at h
  · rename_i o ft cs hf
    obtain ⟨gs, fd, rfl, hfd, hoff, hty, hsz, hft⟩ := desc_struct k hf
    obtain ⟨i2, d2, z2, k2⟩ := hL.known hft
    obtain ⟨c, rfl, hc, hj⟩ := Rep.agg_inv' hx
    obtain ⟨h1, h2, h3⟩ := h
    have hu := k.und
    have hfit : o + (L ft).sz ≤ c.size := by omega
    refine Runs.pure hw hs (v := ldv (L ft) c o) ?_ (rep_mkv h2 (by simp; omega) hfit fun j x hx => hj (o + j) x (by simpa using hx)) ⟨h3, rfl⟩
    subst hty hoff
    simp only [Instr.field, Sem.run_bind, run_underlying hu w, Result.andThen_ok, hfd, asAgg, Sem.run_pure, run_part k2 h2 hfit]
  · exact h.elim

theorem Rep.int_inv' {G : Gh} {o : Bool} {k : IntKind} {n : Int} {v : Value} (h : Rep G o (.int k n) v) : v = .int k n ∧ fits k n := by
  cases h with | int a => exact ⟨rfl, a⟩

theorem Rep.str_inv' {G : Gh} {o : Bool} {s : ByteArray} {v : Value} (h : Rep G o (.str s) v) : v = .string s ∧ s.size ≤ maxLen := by
  cases h with | str a => exact ⟨rfl, a⟩

theorem Rep.bool_inv' {G : Gh} {o : Bool} {b : Bool} {v : Value} (h : Rep G o (.bool b) v) : v = .bool b := by
  cases h; rfl

theorem Rep.osl_inv' {G : Gh} {id g off len : Nat} {v : Value} (h : Rep G true (.osl id g off len) v) :
    ∃ ob cap esz a, v = .slice a len (cap - off) ∧ G.M id g = some ⟨ob, cap, esz⟩ ∧ off + len ≤ cap ∧ len ≤ bigLen ∧ (ob = none → cap = 0) ∧
      (∀ b, ob = some b → off < cap → a = some ⟨b, off * esz, none⟩) ∧ (∀ b, ob = some b → off = 0 → a = some ⟨b, 0, none⟩) := by
  cases h with | osl a b c n d e => exact ⟨_, _, _, _, rfl, a, b, c, n, d, e⟩

theorem Rep.sl_len {G : Gh} {o q full : Bool} {l : List (List AVal)} {v : Value} (h : Rep G o (.sl q full l) v) : ∃ a cap, v = .slice a l.length cap ∧ l.length ≤ cap ∧ l.length ≤ maxLen ∧ (full = true → cap = l.length) := by
  cases h with
  | slnil a => exact ⟨_, _, rfl, Nat.zero_le _, Nat.zero_le _, a⟩
  | sl a b c => exact ⟨_, _, rfl, a, c, b⟩

theorem Rep.sl_at {G : Gh} {o q full : Bool} {l : List (List AVal)} {v : Value} (h : Rep G o (.sl q full l) v) (hne : l ≠ []) :
    ∃ b off cap c e fr esz, v = .slice (some ⟨b, off, none⟩) l.length cap ∧ l.length ≤ cap ∧ l.length ≤ maxLen ∧ G.ok q b ∧ G.F b = some (.cells c e fr) ∧ off + l.length * esz ≤ c.size ∧
      (∀ (i : Nat) (x : List AVal), l[i]? = some x → x.length = esz) ∧
      ∀ (i j : Nat) (x : List AVal) (y : AVal), l[i]? = some x → x[j]? = some y → y.isCell = true ∧ Rep G false y (c.getD (off + i * esz + j) Go.undef) := by
  cases h with
  | slnil a => exact absurd rfl hne
  | sl a b c d e f g hi hj => exact ⟨_, _, _, _, _, _, _, rfl, a, c, d, e, f, g, fun i j x y hx hy => ⟨hi i j x y hx hy, hj i j x y hx hy⟩⟩

theorem desc_slice {t e : Nat} {i : TypeInfo} {d : TypeDesc} {z : Value} (k : Known P L t i d z) (h : (L t).ty = .slice e) : d = .slice e ∧ (L e).ty ≠ .other := by
  have hd := k.desc
  rw [h] at hd
  cases d <;> simp [descIs] at hd
  exact ⟨by rw [hd.1], hd.2⟩

theorem desc_array {t n e : Nat} {i : TypeInfo} {d : TypeDesc} {z : Value} (k : Known P L t i d z) (h : (L t).ty = .array n e) : d = .array n e ∧ (L e).ty ≠ .other := by
  have hd := k.desc
  rw [h] at hd
  cases d <;> simp [descIs] at hd
  exact ⟨by rw [hd.1.1, hd.1.2], hd.2⟩

theorem run_indexAt_sl {t e : Nat} {w : World} {a : Addr} {len cap : Nat} {kk : IntKind} {n : Int} {i2 : TypeInfo} {d2 : TypeDesc} {z2 : Value} (hu : P.underlying t = some (.slice e)) (k2 : Known P L e i2 d2 z2)
    (h0 : 0 ≤ n) (h1 : n < len) : (Instr.indexAt t (.slice (some a) len cap) (.int kk n)).run P w = .ok (.pointer (some (a.add (n.toNat * (L e).sz)))) w := by
  simp only [Instr.indexAt, asIntOf, Sem.run_bind, Sem.run_pure, Result.andThen_ok, run_underlying hu w]
  rw [if_pos ⟨h0, h1⟩]
  simp [run_sizeOf' k2 w]

theorem indexAddr_sound (hL : LOk P L) {t : Nat} (ht : (L t).ty ≠ .other) {x y : AVal} {v u : Value} {G : Gh} {w : World} {sto : Sto} {T : AVal → Prop} (hw : WOk G w) (hs : StoOk G w sto)
    (hx : Rep G true x v) (hy : Rep G true y u) (h : vcIndexAddr L t x y sto T) :
    Runs P (Instr.indexAt t v u) G w fun r s => T r ∧ s = sto := by
  obtain ⟨i, d, z, k⟩ := hL.known ht
  unfold vcIndexAddr at h
  split at h
  · rename_i kk n
    obtain ⟨rfl, -⟩ := Rep.int_inv' hy
    split at h
    · rename_i e he
      obtain ⟨rfl, heo⟩ := desc_slice k he
      obtain ⟨i2, d2, z2, k2⟩ := hL.known heo
      have hu := k.und
      split at h
      · rename_i id g off len
        split at h
        case h_2 => exact h.elim
        rename_i g' esz0 l0 hget
        obtain ⟨rfl, rfl, ⟨h0, h1⟩, h2⟩ := h
        obtain ⟨ob, cap, esz, a, rfl, hM, hc, _, hcn, ha, _⟩ := Rep.osl_inv' hx
        obtain ⟨ob', cap', hM', _⟩ := hs.obj _ _ _ hget
        rw [hM] at hM'
        simp only [Option.some.injEq, Hd.mk.injEq] at hM'
        obtain ⟨rfl, rfl, rfl⟩ := hM'
        obtain ⟨b, rfl⟩ : ∃ b, ob = some b := by
          cases ob with
          | none => have := hcn rfl; omega
          | some b => exact ⟨b, rfl⟩
        rw [ha b rfl (by omega)]
        refine Runs.pure hw hs (by rw [run_indexAt_sl hu k2 h0 h1, addr_lit]) ?_ ⟨h2, rfl⟩
        rw [← Nat.add_mul]
        have := Rep.loc (i := off + n.toNat) (off := 0) hM
        simpa using this
      · rename_i q full l
        obtain ⟨⟨h0, h1⟩, h2⟩ := h
        have hne : l ≠ [] := by rintro rfl; simp at h1; omega
        obtain ⟨b, off, cap, c, e', fr, esz, rfl, _, _, hq, hF, hfit, hlen, hj⟩ := hx.sl_at hne
        have hlt : n.toNat < l.length := by omega
        obtain ⟨y, hy'⟩ : ∃ y, l[n.toNat]? = some y := ⟨l[n.toNat], by simp [hlt]⟩
        obtain ⟨h3, h4⟩ := h2 y hy'
        have hyl := hlen _ y hy'
        have hee : (L e).sz = esz := by omega
        refine Runs.pure hw hs (by rw [run_indexAt_sl hu k2 h0 h1, addr_lit]) ?_ ⟨h4, rfl⟩
        rw [hee]
        have hroom := mul_room (esz := esz) hlt (Nat.le_refl _)
        refine .ref hq hF (by omega) (fun j x hx => (hj _ j y x hy' hx).1) (fun j x hx => (hj _ j y x hy' hx).2)
      · exact h.elim
    · rename_i m e he
      obtain ⟨rfl, heo⟩ := desc_array k he
      obtain ⟨i2, d2, z2, k2⟩ := hL.known heo
      obtain ⟨⟨h0, h1⟩, h⟩ := h
      have hu := k.und
      have hrun : ∀ a : Addr, (Instr.indexAt t (.pointer (some a)) (.int kk n)).run P w = .ok (.pointer (some (a.add (n.toNat * (L e).sz)))) w := by
        intro a
        simp only [Instr.indexAt, asIntOf, Sem.run_bind, Sem.run_pure, Result.andThen_ok, run_underlying hu w, Instr.sureAddr]
        rw [if_pos ⟨h0, h1⟩]
        simp [run_sizeOf' k2 w]
      split at h
      · obtain ⟨b, cap, esz, hM, rfl⟩ := hx.box_inv
        exact Runs.pure hw hs (by rw [hrun, addr_lit]) (.bx hM) ⟨h, rfl⟩
      · obtain ⟨b, cap, esz, hM, rfl⟩ := hx.loc_inv
        exact Runs.pure hw hs (by rw [hrun, addr_lit, Nat.add_assoc]) (.loc hM) ⟨h, rfl⟩
      · obtain ⟨b, off, c, e, fr, rfl, hq, hF, hfit, hj⟩ := Rep.ref_inv' hx
        exact Runs.pure hw hs (by rw [hrun, addr_lit]) (rep_drop hq hF hfit h.1 hj) ⟨h.2, rfl⟩
      · exact h.elim
    · exact h.elim
  · exact h.elim

theorem desc_string {t : Nat} {i : TypeInfo} {d : TypeDesc} {z : Value} (k : Known P L t i d z) (h : (L t).ty = .string) : d = .string := by
  have hd := k.desc
  rw [h] at hd
  cases d <;> simp [descIs] at hd <;> rfl

theorem desc_int {t : Nat} {i : TypeInfo} {d : TypeDesc} {z : Value} {k' : IntKind} (k : Known P L t i d z) (h : (L t).ty = .int k') : d = .int k' := by
  have hd := k.desc
  rw [h] at hd
  cases d <;> simp [descIs] at hd <;> simp [hd]

theorem fits_byte (b : UInt8) : fits .u8 b.toNat := by
  have := b.toNat_lt
  constructor
  · simp [IntKind.min, IntKind.signed]
  · simp [IntKind.max, IntKind.signed, IntKind.bits]; omega

theorem sbyte_eq (s : ByteArray) (n : Nat) (h : n < s.size) : sbyte s n = (s[n]).toNat := by
  have h' : n < s.data.size := h
  have e : s[n] = s.data[n] := rfl
  unfold sbyte
  rw [e, Array.getElem?_toList, Array.getElem?_eq_getElem h']
  rfl

theorem index_sound (hL : LOk P L) {t : Nat} (ht : (L t).ty ≠ .other) {x y : AVal} {v u : Value} {G : Gh} {w : World} {sto : Sto} {T : AVal → Prop} (hw : WOk G w) (hs : StoOk G w sto)
    (hx : Rep G true x v) (hy : Rep G true y u) (h : vcIndex L t x y T) : Runs P (Instr.index t v u) G w fun r s => T r ∧ s = sto := by
  obtain ⟨i, d, z, k⟩ := hL.known ht
  unfold vcIndex at h
  split at h
  · rename_i kk n
    obtain ⟨rfl, -⟩ := Rep.int_inv' hy
    split at h
    · rename_i s he
      have := desc_string k he
      subst this
      obtain ⟨rfl, -⟩ := Rep.str_inv' hx
      obtain ⟨⟨h0, h1⟩, h2⟩ := h
      have hlt : n.toNat < s.size := by omega
      have hu := k.und
      refine Runs.pure hw hs (v := .int .u8 (sbyte s n.toNat)) ?_ ?_ ⟨h2, rfl⟩
      · have hg : s[n.toNat]? = some s[n.toNat] := by simp [hlt]
        simp [Instr.index, asIntOf, run_underlying hu w, h0, hg, sbyte_eq s _ hlt]
      · rw [sbyte_eq s _ hlt]; exact .int (fits_byte _)
    · rename_i m e cs he
      obtain ⟨rfl, heo⟩ := desc_array k he
      obtain ⟨i2, d2, z2, k2⟩ := hL.known heo
      obtain ⟨c, rfl, hc, hj⟩ := Rep.agg_inv' hx
      obtain ⟨⟨h0, h1⟩, h2, h3, h4⟩ := h
      have hu := k.und
      have hfit : n.toNat * (L e).sz + (L e).sz ≤ c.size := by omega
      refine Runs.pure hw hs (v := ldv (L e) c (n.toNat * (L e).sz)) ?_ (rep_mkv h3 (by simp; omega) hfit fun j x hx => hj (n.toNat * (L e).sz + j) x (by simpa using hx)) ⟨h4, rfl⟩
      simp only [Instr.index, asIntOf, Sem.run_bind, Sem.run_pure, Result.andThen_ok, run_underlying hu w]
      rw [if_pos ⟨h0, h1⟩]
      simp [run_sizeOf' k2 w, run_part k2 h3 hfit]
    · exact h.elim
  · exact h.elim

theorem extract_sound {x : AVal} {v : Value} {i : Nat} {G : Gh} {w : World} {sto : Sto} {T : AVal → Prop} (hw : WOk G w) (hs : StoOk G w sto)
    (hx : Rep G true x v) (h : vcExtract x i T) : Runs P (Instr.extract v i) G w fun r s => T r ∧ s = sto := by
  unfold vcExtract at h
  split at h
  · rename_i vs
    obtain ⟨y, hy, hT⟩ := h
    cases hx with
    | @tup _ _ c a b =>
      have hi : i < c.size := by
        rw [a]
        rcases Nat.lt_or_ge i vs.length with h | h
        · exact h
        · rw [List.getElem?_eq_none h] at hy; cases hy
      have hr := b i y hy
      refine Runs.pure hw hs (v := c.getD i Go.undef) (by simp [Instr.extract, hi]) hr ⟨hT, rfl⟩
  · exact h.elim

theorem fits_max (n : Nat) (h : n ≤ maxLen) : fits .i64 (n : Int) := by
  unfold maxLen at h
  constructor
  · simp [IntKind.min, IntKind.signed, IntKind.bits] <;> omega
  · simp [IntKind.max, IntKind.signed, IntKind.bits]; omega

theorem fits_small (n : Nat) (h : n ≤ bigLen) : fits .i64 (n : Int) := by
  unfold bigLen at h
  constructor
  · simp [IntKind.min, IntKind.signed, IntKind.bits] <;> omega
  · simp [IntKind.max, IntKind.signed, IntKind.bits]; omega

theorem fits_maxLen (n : Nat) (h : n ≤ maxLen) : fits .i64 (n : Int) := by
  unfold maxLen at h
  constructor
  · simp [IntKind.min, IntKind.signed, IntKind.bits] <;> omega
  · simp [IntKind.max, IntKind.signed, IntKind.bits]; omega

theorem desc_map {t k' e' : Nat} {i : TypeInfo} {d : TypeDesc} {z : Value} (k : Known P L t i d z) (h : (L t).ty = .map k' e') : d = .map k' e' ∧ (L k').ty ≠ .other ∧ (L e').ty ≠ .other := by
  have hd := k.desc
  rw [h] at hd
  cases d <;> simp [descIs] at hd
  exact ⟨by rw [hd.1.1.1, hd.1.1.2], hd.1.2, hd.2⟩

theorem map_at {G : Gh} {w : World} {id g : Nat} {es : List (ByteArray × AVal)} (h : ObjOk G w id g (.mp es)) {b cap e' : Nat} (hM : G.M id g = some ⟨some b, cap, e'⟩) :
    G.F b = none ∧ ∃ me clock, w.heap[b]? = some (.map me clock) ∧ me.size = es.length ∧ es.length ≤ bigLen ∧
      ∀ (j : Nat) (x : ByteArray × AVal), es[j]? = some x → ∃ m : MapEntry, me[j]? = some m ∧ m.key = .string x.1 ∧ x.2.isCell = true ∧ Rep G false x.2 m.val := by
  obtain ⟨b', cap', esz, h1, h2, me, cl, h3, h4, h4', h5⟩ := h
  rw [hM] at h1
  simp only [Option.some.injEq, Hd.mk.injEq] at h1
  obtain ⟨rfl, _, _⟩ := h1
  exact ⟨h2, me, cl, h3, h4, h4', h5⟩

theorem map_atI {G : Gh} {w : World} {id g : Nat} {es : List (Int × AVal)} (h : ObjOk G w id g (.mpi es)) {b cap e' : Nat} (hM : G.M id g = some ⟨some b, cap, e'⟩) :
    G.F b = none ∧ ∃ me clock, w.heap[b]? = some (.map me clock) ∧ me.size = es.length ∧ es.length ≤ bigLen ∧
      ∀ (j : Nat) (x : Int × AVal), es[j]? = some x → ∃ m : MapEntry, me[j]? = some m ∧ m.key = .int .i64 x.1 ∧ x.2.isCell = true ∧ Rep G false x.2 m.val := by
  obtain ⟨b', cap', esz, h1, h2, me, cl, h3, h4, h4', h5⟩ := h
  rw [hM] at h1
  simp only [Option.some.injEq, Hd.mk.injEq] at h1
  obtain ⟨rfl, _, _⟩ := h1
  exact ⟨h2, me, cl, h3, h4, h4', h5⟩

theorem Rep.map_inv' {G : Gh} {id g : Nat} {v : Value} (h : Rep G true (.map id g) v) : ∃ b cap esz, G.M id g = some ⟨some b, cap, esz⟩ ∧ v = .map (some b) := by
  cases h with | map a => exact ⟨_, _, _, a, rfl⟩

theorem len_sound (hL : LOk P L) {t ty : Nat} (ht : (L t).ty ≠ .other) {x : AVal} {v : Value} {G : Gh} {w : World} {sto : Sto} {T : AVal → Prop} (hw : WOk G w) (hs : StoOk G w sto)
    (hx : Rep G true x v) (h : vcLen L t x sto T) : Runs P (Builtin.len_ #[t] ty #[v]) G w fun r s => T r ∧ s = sto := by
  obtain ⟨i, d, z, k⟩ := hL.known ht
  have hu := k.und
  unfold vcLen at h
  split at h
  · rename_i s he
    have := desc_string k he
    subst this
    obtain ⟨rfl, hb⟩ := Rep.str_inv' hx
    exact Runs.pure hw hs (v := .int .i64 s.size) (by simp [Builtin.len_, run_underlying hu w, goInt]) (.int (fits_maxLen _ hb)) ⟨h, rfl⟩
  · rename_i e q full l he
    obtain ⟨rfl, _⟩ := desc_slice k he
    obtain ⟨a, cap, rfl, _, hb, _⟩ := hx.sl_len
    exact Runs.pure hw hs (v := .int .i64 l.length) (by simp [Builtin.len_, run_underlying hu w, goInt]) (.int (fits_max _ hb)) ⟨h, rfl⟩
  · rename_i e id g off len he
    obtain ⟨rfl, _⟩ := desc_slice k he
    obtain ⟨ob, cap, esz, a, rfl, hM, hc, hb, _⟩ := Rep.osl_inv' hx
    exact Runs.pure hw hs (v := .int .i64 len) (by simp [Builtin.len_, run_underlying hu w, goInt]) (.int (fits_small _ hb)) ⟨h, rfl⟩
  · rename_i n e he
    obtain ⟨rfl, _⟩ := desc_array k he
    exact Runs.pure hw hs (v := .int .i64 n) (by simp [Builtin.len_, run_underlying hu w, goInt]) (.int (fits_small _ (by unfold bigLen; omega))) ⟨h.2, rfl⟩
  · rename_i k' e' he
    obtain ⟨rfl, _⟩ := desc_map k he
    cases hx
    exact Runs.pure hw hs (v := .int .i64 0) (by simp [Builtin.len_, run_underlying hu w, goInt]) (.int (fits_small 0 (Nat.zero_le _))) ⟨h, rfl⟩
  · rename_i k' e' id g he
    obtain ⟨rfl, _⟩ := desc_map k he
    obtain ⟨b, cap, esz, hM, rfl⟩ := Rep.map_inv' hx
    split at h
    · rename_i g' es hget
      obtain ⟨rfl, h⟩ := h
      obtain ⟨_, me, cl, hb, hsz, hbig, _⟩ := map_at (hs.obj _ _ _ hget) hM
      refine Runs.pure hw hs (v := .int .i64 es.length) ?_ (.int (fits_small _ hbig)) ⟨h, rfl⟩
      have hg : (getObj b).run P w = .ok (.map me cl) w := by simp only [getObj, Sem.run, hb]
      simp [Builtin.len_, run_underlying hu w, goInt, hg, hsz]
    · rename_i g' es hget
      obtain ⟨rfl, h⟩ := h
      obtain ⟨_, me, cl, hb, hsz, hbig, _⟩ := map_atI (hs.obj _ _ _ hget) hM
      refine Runs.pure hw hs (v := .int .i64 es.length) ?_ (.int (fits_small _ hbig)) ⟨h, rfl⟩
      have hg : (getObj b).run P w = .ok (.map me cl) w := by simp only [getObj, Sem.run, hb]
      simp [Builtin.len_, run_underlying hu w, goInt, hg, hsz]
    · exact h.elim
  · exact h.elim
end Go.Rad
/- Numbers, texts and comparisons: what the machine does where the reduction's conditions hold. -/
namespace Go.Rad
open Go
variable {P : Program} {L : Lay}

theorem fits_wrap (k : IntKind) (n : Int) : fits k (k.wrap n) := by
  unfold fits IntKind.min IntKind.max IntKind.wrap
  have h0 : (2 : Int) ^ k.bits = 2 * 2 ^ (k.bits - 1) := by cases k <;> rfl
  have h1 : 0 ≤ n % (2 ^ k.bits : Int) := Int.emod_nonneg _ (by cases k <;> decide)
  have h2 : n % (2 ^ k.bits : Int) < 2 ^ k.bits := Int.emod_lt_of_pos _ (by cases k <;> decide)
  generalize n % (2 ^ k.bits : Int) = m at *
  simp only
  cases hk : k.signed <;> simp only [Bool.true_and, Bool.false_and, Bool.false_eq_true, if_false, if_true]
  · omega
  · by_cases hm : m ≥ (2 : Int) ^ (k.bits - 1)
    · rw [if_pos (by simpa using hm)]; omega
    · rw [if_neg (by simpa using hm)]; omega

theorem wrap_i64 (n : Int) (h : inI64 n) : IntKind.i64.wrap n = n := by
  unfold inI64 at h
  unfold IntKind.wrap
  simp only [IntKind.bits, IntKind.signed, Bool.true_and]
  by_cases hm : n % 18446744073709551616 ≥ 9223372036854775808
  · rw [if_pos (by simpa using hm)]; omega
  · rw [if_neg (by simpa using hm)]; omega

theorem wrap_fits (k : IntKind) (n : Int) (h : fits k n) : k.wrap n = n := by
  unfold fits IntKind.min IntKind.max at h
  unfold IntKind.wrap
  have h0 : (2 : Int) ^ k.bits = 2 * 2 ^ (k.bits - 1) := by cases k <;> rfl
  have hp : (0 : Int) < 2 ^ (k.bits - 1) := by cases k <;> decide
  simp only
  cases hk : k.signed <;> simp only [hk, Bool.true_and, Bool.false_and, Bool.false_eq_true, if_false, if_true] at h ⊢
  · rw [Int.emod_eq_of_lt (by omega) (by omega)]
  · by_cases hn : 0 ≤ n
    · rw [Int.emod_eq_of_lt hn (by omega), if_neg (by simp; omega)]
    · have : n % (2 : Int) ^ k.bits = n + 2 ^ k.bits := by
        rw [← Int.add_emod_right, Int.emod_eq_of_lt (by omega) (by omega)]
      rw [this, if_pos (by simp; omega)]; omega

theorem arith_rep {k : IntKind} {n : Int} {T : AVal → Prop} {G : Gh} (h : vcArith k n T) : ∃ r, Rep G true r (.int k (k.wrap n)) ∧ T r := by
  unfold vcArith at h
  split at h
  · refine ⟨_, ?_, h.2⟩
    have := fits_wrap .i64 n
    rw [wrap_i64 n h.1] at *
    exact .int this
  · exact ⟨_, .int (fits_wrap _ _), h⟩

theorem fits_tmod {k : IntKind} {a b : Int} (ha : fits k a) : fits k (a.tmod b) := by
  unfold fits at *
  have hmin : k.min ≤ 0 := by cases k <;> decide
  have hmax : 0 ≤ k.max := by cases k <;> decide
  by_cases h : 0 ≤ a
  · have h1 := Int.tmod_nonneg b h
    have h2 := Int.tmod_lt_of_pos
    have h3 : a.tmod b ≤ a := by
      have := Int.natAbs_tmod a b
      have h4 : a.natAbs % b.natAbs ≤ a.natAbs := Nat.mod_le _ _
      omega
    omega
  · have h3 : a ≤ a.tmod b ∧ a.tmod b ≤ 0 := by
      have h5 : (-a).tmod b = -(a.tmod b) := Int.neg_tmod a b
      have h1 := Int.tmod_nonneg (a := -a) b (by omega)
      have := Int.natAbs_tmod (-a) b
      have h4 : (-a).natAbs % b.natAbs ≤ (-a).natAbs := Nat.mod_le _ _
      omega
    omega

theorem fits_fdiv {k : IntKind} {a : Int} (ha : fits k a) (n : Nat) : fits k (a.fdiv (2 ^ n)) := by
  unfold fits at *
  have hmin : k.min ≤ 0 := by cases k <;> decide
  have hmax : 0 ≤ k.max := by cases k <;> decide
  have hp : (0 : Int) < 2 ^ n := Int.pow_pos (by decide)
  rw [Int.fdiv_eq_ediv_of_nonneg _ (Int.le_of_lt hp)]
  by_cases h : 0 ≤ a
  · have h1 : 0 ≤ a / 2 ^ n := Int.ediv_nonneg h (Int.le_of_lt hp)
    have h2 : a / 2 ^ n ≤ a := Int.ediv_le_self _ h
    omega
  · have h1 : a / 2 ^ n < 0 := Int.ediv_neg_of_neg_of_pos (by omega) hp
    have h2 : a ≤ a / 2 ^ n := by
      rw [Int.le_ediv_iff_mul_le hp]
      have : a * 2 ^ n ≤ a * 1 := Int.mul_le_mul_of_nonpos_left (by omega) (by omega)
      omega
    omega

theorem int_sound {op : BinOp} {k : IntKind} {a b : Int} {T : AVal → Prop} {G : Gh} {w : World} {sto : Sto} {t : Nat} (hw : WOk G w) (hs : StoOk G w sto) (hsh : op ≠ .shl ∧ op ≠ .shr) (ha : fits k a)
    (h : vcInt op k a b T) : Runs P (binOp op t (.int k a) (.int k b)) G w fun r s => T r ∧ s = sto := by
  have key : ∀ (v : Value) (r : AVal), (binOp op t (.int k a) (.int k b)).run P w = .ok v w → Rep G true r v → T r → Runs P (binOp op t (.int k a) (.int k b)) G w fun r s => T r ∧ s = sto :=
    fun v r h1 h2 h3 => Runs.pure hw hs h1 h2 ⟨h3, rfl⟩
  cases op <;> simp only [vcInt] at h
  case add => obtain ⟨r, h1, h2⟩ := arith_rep (G := G) h; exact key _ r (by simp [binOp, Op.intArith]) h1 h2
  case sub => obtain ⟨r, h1, h2⟩ := arith_rep (G := G) h; exact key _ r (by simp [binOp, Op.intArith]) h1 h2
  case mul => obtain ⟨r, h1, h2⟩ := arith_rep (G := G) h; exact key _ r (by simp [binOp, Op.intArith]) h1 h2
  case quo => obtain ⟨r, h1, h2⟩ := arith_rep (G := G) h.2; exact key _ r (by simp [binOp, Op.intDiv, h.1]) h1 h2
  case rem => exact key (.int k (a.tmod b)) _ (by simp [binOp, Op.intDiv, h.1]) (.int (fits_tmod ha)) h.2
  case and => exact key (.int k (bitsOf .and k a b)) _ (by simp [binOp, Op.intBits, bitsOf]) (.int (fits_wrap _ _)) h
  case or => exact key (.int k (bitsOf .or k a b)) _ (by simp [binOp, Op.intBits, bitsOf]) (.int (fits_wrap _ _)) h
  case xor => exact key (.int k (bitsOf .xor k a b)) _ (by simp [binOp, Op.intBits, bitsOf]) (.int (fits_wrap _ _)) h
  case andNot => exact key (.int k (bitsOf .andNot k a b)) _ (by simp [binOp, Op.intBits, bitsOf]) (.int (fits_wrap _ _)) h
  case eql => exact key (.bool (decide (a = b))) _ (by simp [binOp, Op.intCmp]; rfl) .bool h
  case neq => exact key (.bool (!decide (a = b))) _ (by simp [binOp, Op.intCmp]; rfl) .bool h
  case lss => exact key (.bool (decide (a < b))) _ (by simp [binOp, Op.intCmp]) .bool h
  case leq => exact key (.bool (decide (a ≤ b))) _ (by simp [binOp, Op.intCmp]) .bool h
  case gtr => exact key (.bool (decide (b < a))) _ (by simp [binOp, Op.intCmp]) .bool h
  case geq => exact key (.bool (decide (b ≤ a))) _ (by simp [binOp, Op.intCmp]) .bool h
  all_goals exact absurd h id

theorem shift_sound {op : BinOp} {k k' : IntKind} {a b : Int} {T : AVal → Prop} {G : Gh} {w : World} {sto : Sto} {t : Nat} (hw : WOk G w) (hs : StoOk G w sto) (hsh : op = .shl ∨ op = .shr) (ha : fits k a)
    (h : vcShift op k a b T) : Runs P (binOp op t (.int k a) (.int k' b)) G w fun r s => T r ∧ s = sto := by
  rcases hsh with rfl | rfl
  · simp only [vcShift] at h
    exact Runs.pure hw hs (v := .int k (k.wrap (a * 2 ^ min b.toNat k.bits))) (by simp only [binOp, Op.shift]; rw [if_neg (by omega)]; simp) (.int (fits_wrap _ _)) ⟨h.2, rfl⟩
  · simp only [vcShift] at h
    exact Runs.pure hw hs (v := .int k (a.fdiv (2 ^ min b.toNat k.bits))) (by simp only [binOp, Op.shift]; rw [if_neg (by omega)]; simp) (.int (fits_fdiv ha _)) ⟨h.2, rfl⟩

theorem eqBytes (a b : ByteArray) : (a.toList == b.toList) = decide (a = b) := by
  rw [ByteArray.toList_eq, ByteArray.toList_eq]
  by_cases h : a = b
  · subst h; simp
  · have : a.data ≠ b.data := fun e => h (ByteArray.ext e)
    simp [h, this]

theorem str_sound {op : BinOp} {a b : ByteArray} {T : AVal → Prop} {G : Gh} {w : World} {sto : Sto} {t : Nat} (hw : WOk G w) (hs : StoOk G w sto)
    (h : vcStr op a b T) : Runs P (binOp op t (.string a) (.string b)) G w fun r s => T r ∧ s = sto := by
  have key : ∀ (v : Value) (r : AVal), (binOp op t (.string a) (.string b)).run P w = .ok v w → Rep G true r v → T r → Runs P (binOp op t (.string a) (.string b)) G w fun r s => T r ∧ s = sto :=
    fun v r h1 h2 h3 => Runs.pure hw hs h1 h2 ⟨h3, rfl⟩
  have hbin : op ≠ .shl → op ≠ .shr → binOp op t (.string a) (.string b) = Op.stringOp op a b := by intros; cases op <;> rfl
  cases op <;> simp only [vcStr] at h
  case add =>
    refine key (.string (a ++ b)) _ ?_ (.str (by rw [ByteArray.size_append]; exact h.1)) h.2
    rw [hbin (by simp) (by simp)]
    simp only [Op.stringOp]
    rw [if_neg]
    · rfl
    · have := h.1
      unfold maxLen at this
      simp [IntKind.max, IntKind.signed, IntKind.bits]; omega
  case eql => exact key _ _ (by rw [hbin (by simp) (by simp)]; simp only [Op.stringOp, eqBytes, Sem.run_pure]) .bool h
  case neq => exact key _ _ (by rw [hbin (by simp) (by simp)]; simp only [Op.stringOp, eqBytes, Sem.run_pure]) .bool h
  case lss => exact key _ _ (by rw [hbin (by simp) (by simp)]; simp only [Op.stringOp, Sem.run_pure]) .bool h
  case leq => exact key _ _ (by rw [hbin (by simp) (by simp)]; simp only [Op.stringOp, eqBytes, Sem.run_pure]) .bool h
  case gtr => exact key _ _ (by rw [hbin (by simp) (by simp)]; simp only [Op.stringOp, eqBytes, Sem.run_pure]) .bool h
  case geq => exact key _ _ (by rw [hbin (by simp) (by simp)]; simp only [Op.stringOp, Sem.run_pure]) .bool h

theorem intsOf_get {k : IntKind} : ∀ (xs : List AVal) (a : List Int), intsOf k xs = some a → xs = a.map (AVal.int k)
  | [], a, h => by simp [intsOf] at h; subst h; rfl
  | .int k' n :: r, a, h => by
    simp only [intsOf] at h
    split at h
    · rename_i hk
      subst hk
      cases hr : intsOf k' r with
      | none => rw [hr] at h; cases h
      | some b =>
        rw [hr] at h
        simp at h
        subst h
        simp [intsOf_get r b hr]
    · cases h
  | .bool _ :: _, _, h | .str _ :: _, _, h | .nil :: _, _, h | .ref _ _ :: _, _, h | .sl _ _ _ :: _, _, h | .fn _ _ :: _, _, h | .nilfn :: _, _, h | .nilmap :: _, _, h | .agg _ :: _, _, h | .tup _ :: _, _, h | .loc _ _ _ _ :: _, _, h | .bx _ _ _ :: _, _, h | .osl _ _ _ _ :: _, _, h | .map _ _ :: _, _, h | .opt _ _ :: _, _, h | .undef :: _, _, h => by simp [intsOf] at h

theorem rep_ints {G : Gh} {k : IntKind} {a : List Int} {c : Array Value} (hc : c.size = a.length) (h : ∀ (j : Nat) (x : AVal), (a.map (AVal.int k))[j]? = some x → x.isCell = true ∧ Rep G true x (c.getD j undef)) :
    c = (a.map (Value.int k)).toArray := by
  apply Array.ext
  · simpa using hc
  · intro j h1 h2
    have hj : j < a.length := by omega
    have := (h j (.int k a[j]) (by simp [hj])).2
    have hv := (Rep.int_inv' this).1
    simp only [Array.getD_eq_getD_getElem?, Array.getElem?_eq_getElem h1, Option.getD_some] at hv
    simp [hv]

/-- Equality of two arrays of numbers, element by element. -/
theorem run_eqArray {t e n m0 : Nat} {k : IntKind} {i2 : TypeInfo} {d2 : TypeDesc} {z2 : Value} (hu : P.underlying t = some (.array n e)) (k2 : Known P L e i2 d2 z2) (he : (L e).ty = .int k) (hsz : (L e).sz = 1) (hag : (L e).ag = false)
    (a b : List Int) (ha : a.length = n) (hb : b.length = n) (w : World) :
    (Op.equalIn (m0 + 1 + 1) t (.agg (a.map (Value.int k)).toArray) (.agg (b.map (Value.int k)).toArray)).run P w = .ok (decide (a = b)) w := by
  have hd2 : d2 = .int k := by
    have := k2.desc
    rw [he] at this
    cases d2 <;> simp [descIs] at this
    rw [this]
  subst hd2
  have hstep : ∀ (j : Nat) (w : World), j < n → ∀ (c : List Int), c.length = n → (part e (c.map (Value.int k)).toArray (j * 1)).run P w = .ok (.int k (c.getD j 0)) w := by
    intro j w hj c hc
    have := run_part (c := (c.map (Value.int k)).toArray) (off := j * 1) (w := w) k2 (by omega) (by simp; omega)
    rw [this]
    have hj' : j < c.length := by omega
    simp [ldv, hag, hj', List.getD]
  rw [Op.equalIn]
  simp only [Sem.run_bind, run_underlying hu, Result.andThen_ok, run_sizeOf' k2, hsz]
  rw [Std.Legacy.Range.forIn_eq_forIn_range']
  simp only [Std.Legacy.Range.size, Nat.sub_zero, Nat.add_sub_cancel, Nat.div_one]
  have main : ∀ (m j : Nat) (w : World), j + m = n → a.take j = b.take j →
      ((forIn (List.range' j m) ((none, ()) : Option Bool × Unit) fun i r => do
        let x ← part e (a.map (Value.int k)).toArray (i * 1)
        let y ← part e (b.map (Value.int k)).toArray (i * 1)
        let c ← Op.equalIn (m0 + 1) e x y
        if (!c) = true then pure (ForInStep.done (some false, ())) else pure (ForInStep.yield (none, ())) : Sem _)).run P w =
        .ok ((if a = b then none else some false, ())) w := by
    intro m
    induction m with
    | zero =>
      intro j w hj hpre
      have : a = b := by rwa [List.take_of_length_le (by omega), List.take_of_length_le (by omega)] at hpre
      simp [this]
    | succ m ih =>
      intro j w hj hpre
      have hja : j < a.length := by omega
      have hjb : j < b.length := by omega
      simp only [List.range'_succ, List.forIn_cons, Sem.run_bind, hstep j _ (by omega) a ha, hstep j _ (by omega) b hb, Result.andThen_ok, run_equalIn_int _ _ _ _ _ _ _ k2.und]
      have e1 : a.getD j 0 = a[j] := by simp [List.getD, hja]
      have e2 : b.getD j 0 = b[j] := by simp [List.getD, hjb]
      rw [e1, e2]
      by_cases hh : a[j] = b[j]
      · have hx : (a[j] == b[j]) = true := by simpa using hh
        simp only [hx, Bool.not_true, Bool.false_eq_true, if_false, Sem.run_pure, Result.andThen_ok]
        refine ih (j + 1) w (by omega) ?_
        rw [List.take_succ_eq_append_getElem hja, List.take_succ_eq_append_getElem hjb, hpre, hh]
      · have hx : (a[j] == b[j]) = false := by simpa using hh
        have hab : a ≠ b := by rintro rfl; exact hh rfl
        simp only [hx, Bool.not_false, if_true, Sem.run_pure, Result.andThen_ok, hab, if_false]
  have := main n 0 w (by omega) (by simp)
  rw [this]
  simp only [Result.andThen_ok]
  by_cases h : a = b
  · simp [h]
  · simp [h]

theorem eqAgg_sound (hL : LOk P L) {t : Nat} (ht : (L t).ty ≠ .other) {neg : Bool} {xs ys : List AVal} {u v : Value} {G : Gh} {w : World} {sto : Sto} {T : Bool → Prop} {x0 y0 : Operand} (hw : WOk G w) (hs : StoOk G w sto)
    (hx : Rep G true (.agg xs) u) (hy : Rep G true (.agg ys) v) (h : vcEqAgg L t xs ys T) :
    Runs P (do eqGuard (if neg then .neq else .eql) t x0 y0 u v; binOp (if neg then .neq else .eql) t u v) G w fun r s => (∃ b, r = .bool (if neg then !b else b) ∧ T b) ∧ s = sto := by
  obtain ⟨i, d, z, k⟩ := hL.known ht
  unfold vcEqAgg at h
  split at h
  · rename_i n e hte
    split at h
    · rename_i kk hek
      obtain ⟨a, b, ha, hb, hla, hlb, hn, hsz, hag, hT⟩ := h
      obtain ⟨rfl, heo⟩ := desc_array k hte
      obtain ⟨i2, d2, z2, k2⟩ := hL.known heo
      have hd2 : d2 = .int kk := by
        have := k2.desc
        rw [hek] at this
        cases d2 <;> simp [descIs] at this
        rw [this]
      obtain ⟨c1, rfl, hc1, hj1⟩ := Rep.agg_inv' hx
      obtain ⟨c2, rfl, hc2, hj2⟩ := Rep.agg_inv' hy
      have hxs := intsOf_get xs a ha
      have hys := intsOf_get ys b hb
      subst hxs hys
      have e1 := rep_ints (by simpa using hc1) hj1
      have e2 := rep_ints (by simpa using hc2) hj2
      subst e1 e2
      have hu := k.und
      have hgt : P.eqGuardType P.depth t = false := by
        have h2 := k2.und
        subst hd2
        have : P.depth = (2 * (P.types.size + Made.depth)) + 1 + 1 := rfl
        rw [this]
        simp [Program.eqGuardType, hu, h2]
      have hrun := run_eqArray (P := P) (L := L) (m0 := 9998) hu k2 hek hsz hag a b hla hlb w
      refine Runs.pure hw hs (v := .bool (if neg then !decide (a = b) else decide (a = b))) ?_ .bool ⟨⟨_, rfl, hT⟩, rfl⟩
      simp only [Sem.run_bind, run_eqGuard_agg w _ t x0 y0 _ _ hgt, Result.andThen_ok]
      cases neg
      · simp only [Bool.false_eq_true, if_false, run_eql_struct, hrun, Result.andThen_ok]
      · simp only [if_true, run_neq_struct, hrun, Result.andThen_ok]
    · exact h.elim
  · exact h.elim
end Go.Rad
/- Lists that grow or are made: what the machine does where the reduction's conditions hold. -/
namespace Go.Rad
open Go
variable {P : Program} {L : Lay}

/-- Cells in a row that read as a list of elements. -/
structure RowRep (G : Gh) (esz : Nat) (l : List (List AVal)) (xs : List Value) : Prop where
  len : xs.length = l.length * esz
  each : ∀ (i : Nat) (x : List AVal), l[i]? = some x → x.length = esz
  cell : ∀ (i j : Nat) (x : List AVal) (y : AVal), l[i]? = some x → x[j]? = some y → y.isCell = true
  rep : ∀ (i j : Nat) (x : List AVal) (y : AVal), l[i]? = some x → x[j]? = some y → Rep G false y (xs.getD (i * esz + j) undef)

theorem RowRep.nrm {G : Gh} {esz : Nat} {l : List (List AVal)} {xs : List Value} (h : RowRep G esz l xs) : RowRep G esz (l.map (List.map nrm1)) xs := by
  refine ⟨by simpa using h.len, fun i x hx => ?_, fun i j x y hx hy => ?_, fun i j x y hx hy => ?_⟩
  · rw [List.getElem?_map] at hx
    obtain ⟨x', hx', rfl⟩ := Option.map_eq_some_iff.1 hx
    simpa using h.each i x' hx'
  · rw [List.getElem?_map] at hx
    obtain ⟨x', hx', rfl⟩ := Option.map_eq_some_iff.1 hx
    rw [List.getElem?_map] at hy
    obtain ⟨y', hy', rfl⟩ := Option.map_eq_some_iff.1 hy
    rw [nrm1ucell]; exact h.cell i j x' y' hx' hy'
  · rw [List.getElem?_map] at hx
    obtain ⟨x', hx', rfl⟩ := Option.map_eq_some_iff.1 hx
    rw [List.getElem?_map] at hy
    obtain ⟨y', hy', rfl⟩ := Option.map_eq_some_iff.1 hy
    exact (h.rep i j x' y' hx' hy').nrm1

theorem lt_of_get {α : Type} {l : List α} {i : Nat} {x : α} (h : l[i]? = some x) : i < l.length := by
  rcases Nat.lt_or_ge i l.length with h' | h'
  · exact h'
  · rw [List.getElem?_eq_none h'] at h; cases h

theorem RowRep.append {G : Gh} {esz : Nat} {l m : List (List AVal)} {xs ys : List Value} (h : RowRep G esz l xs) (k : RowRep G esz m ys) : RowRep G esz (l ++ m) (xs ++ ys) where
  len := by rw [List.length_append, List.length_append, h.len, k.len, Nat.add_mul]
  each i x hx := by
    rw [List.getElem?_append] at hx
    split at hx
    · exact h.each _ _ hx
    · exact k.each _ _ hx
  cell i j x y hx hy := by
    rw [List.getElem?_append] at hx
    split at hx
    · exact h.cell _ _ _ _ hx hy
    · exact k.cell _ _ _ _ hx hy
  rep i j x y hx hy := by
    rw [List.getElem?_append] at hx
    split at hx
    · rename_i hi
      have hj : j < esz := by have := lt_of_get hy; rw [h.each _ _ hx] at this; exact this
      have hroom := mul_room (esz := esz) hi (Nat.le_refl _)
      have hlt : i * esz + j < xs.length := by rw [h.len]; omega
      have := h.rep _ _ _ _ hx hy
      simpa [List.getD_eq_getElem?_getD, List.getElem?_append, hlt] using this
    · rename_i hi
      have hj : j < esz := by have := lt_of_get hy; rw [k.each _ _ hx] at this; exact this
      have h1 : l.length * esz ≤ i * esz := Nat.mul_le_mul_right _ (by omega)
      have h2 : (i - l.length) * esz = i * esz - l.length * esz := Nat.sub_mul _ _ _
      have hge : ¬ i * esz + j < xs.length := by rw [h.len]; omega
      have := k.rep _ _ _ _ hx hy
      rw [h2] at this
      have e : i * esz + j - xs.length = i * esz - l.length * esz + j := by rw [h.len]; omega
      simpa [List.getD_eq_getElem?_getD, List.getElem?_append, hge, e] using this

theorem RowRep.mono {G G' : Gh} {esz : Nat} {l : List (List AVal)} {xs : List Value} (h : RowRep G esz l xs) (hm : Mono G G') : RowRep G' esz l xs :=
  ⟨h.len, h.each, h.cell, fun i j x y hx hy => (h.rep i j x y hx hy).mono hm⟩

theorem RowRep.oneCell {G : Gh} {esz : Nat} {l : List (List AVal)} {xs : List Value} (h : RowRep G esz l xs) (hz : 0 < esz) : ∀ u ∈ xs, u.oneCell' = true := by
  intro u hu
  obtain ⟨n, hn, rfl⟩ := List.getElem_of_mem hu
  have hn' := hn
  rw [h.len] at hn'
  have hi : n / esz < l.length := by rw [Nat.div_lt_iff_lt_mul hz]; exact hn'
  have hj : n % esz < esz := Nat.mod_lt _ hz
  have hx : l[n / esz]? = some l[n / esz] := by simp [hi]
  have hxl := h.each _ _ hx
  have hy : (l[n / esz])[n % esz]? = some (l[n / esz])[n % esz] := by simp [hxl, hj]
  have hr := h.rep _ _ _ _ hx hy
  have hc := h.cell _ _ _ _ hx hy
  have e : n / esz * esz + n % esz = n := Nat.div_add_mod' n esz
  rw [e] at hr
  have e2 : xs.getD n undef = xs[n] := by simp [List.getD, hn]
  rw [e2] at hr
  exact hr.oneCell hc

theorem RowRep.nil {G : Gh} {esz : Nat} : RowRep G esz [] [] := ⟨by simp, fun i x h => by simp at h, fun i j x y h => by simp at h, fun i j x y h => by simp at h⟩

/-- A row of a block, from the beginning. -/
theorem RowRep.of_block {G : Gh} {esz : Nat} {l : List (List AVal)} {c : Array Value} {off : Nat} (hfit : off + l.length * esz ≤ c.size)
    (h1 : ∀ (i : Nat) (x : List AVal), l[i]? = some x → x.length = esz)
    (h2 : ∀ (i j : Nat) (x : List AVal) (y : AVal), l[i]? = some x → x[j]? = some y → y.isCell = true ∧ Rep G false y (c.getD (off + i * esz + j) Go.undef)) :
    RowRep G esz l ((c.toList.drop off).take (l.length * esz)) where
  len := by simp; omega
  each := h1
  cell i j x y hx hy := (h2 i j x y hx hy).1
  rep i j x y hx hy := by
    have hj : j < esz := by have := lt_of_get hy; rw [h1 _ _ hx] at this; exact this
    have hroom := mul_room (esz := esz) (lt_of_get hx) (Nat.le_refl _)
    have := (h2 i j x y hx hy).2
    have e : ((c.toList.drop off).take (l.length * esz)).getD (i * esz + j) Go.undef = c.getD (off + i * esz + j) Go.undef := by
      simp only [List.getD_eq_getElem?_getD, List.getElem?_take, List.getElem?_drop, Array.getElem?_toList, Array.getD_eq_getD_getElem?]
      rw [if_pos (by omega), Nat.add_assoc]
    rw [e]; exact this

theorem RowRep.block_cells {c : Array Value} {off n : Nat} {w : World} {b : Nat} {e : TypeId} {fr : Nat × Nat} (hb : w.heap[b]? = some (.cells c e fr)) :
    ∀ (j : Nat) (u : Value), ((c.toList.drop off).take n)[j]? = some u → w.cell? ((⟨b, off, none⟩ : Addr).add j) = some u := by
  intro j u hu
  rw [addr_lit, cell_of_row w b (off + j) c e fr hb]
  simp only [List.getElem?_take, List.getElem?_drop, Array.getElem?_toList] at hu
  split at hu
  · exact hu
  · cases hu

/-- What is appended, as cells somewhere. -/
theorem elems_sound {x : AVal} {v : Value} {G : Gh} {w : World} {sto : Sto} {m : List (List AVal)} {esz : Nat} (hw : WOk G w) (hs : StoOk G w sto) (hx : Rep G true x v) (h : elemsOf x sto = some m)
    (hm : ∀ y ∈ m, y.length = esz ∧ y.all AVal.isFz = true) (hz : 0 < esz) :
    (m = [] ∧ ∃ a c, v = .slice a 0 c) ∨ (m ≠ [] ∧ ∃ ad c news, v = .slice (some ad) m.length c ∧ RowRep G esz m news ∧ ∀ (j : Nat) (u : Value), news[j]? = some u → w.cell? (ad.add j) = some u) := by
  unfold elemsOf at h
  split at h
  · rename_i q full l
    simp only [Option.some.injEq] at h
    subst h
    by_cases hne : l = []
    · subst hne
      obtain ⟨a, cap, rfl, _⟩ := hx.sl_len
      exact .inl ⟨rfl, a, cap, rfl⟩
    · obtain ⟨b, off, cap, c, e, fr, esz', rfl, _, _, hq, hF, hfit, hlen, hj⟩ := hx.sl_at hne
      right
      have he : esz' = esz := by
        obtain ⟨y, ys, rfl⟩ := List.exists_cons_of_ne_nil hne
        have h1 := hlen 0 y rfl
        have h2 := (hm y (by simp)).1
        omega
      subst he
      exact ⟨hne, _, _, _, rfl, RowRep.of_block hfit hlen hj, RowRep.block_cells (hw.F _ _ hF)⟩
  · rename_i id g off len
    split at h
    · rename_i g' esz0 l hget
      split at h
      · rename_i hc
        obtain ⟨rfl, hle⟩ := hc
        simp only [Option.some.injEq] at h
        obtain ⟨ob, cap, esz1, a, rfl, hM, hcap, _, hcn, ha, ha0⟩ := Rep.osl_inv' hx
        have hob := hs.obj _ _ _ hget
        by_cases hne : m = []
        · have hl0 : len = 0 := by
            have : ((l.drop off).take len).length = 0 := by rw [h, hne]; rfl
            simp at this; omega
          subst hl0
          exact .inl ⟨hne, a, _, rfl⟩
        · right
          have hlen : len ≠ 0 := by rintro rfl; apply hne; rw [← h]; simp
          obtain ⟨b, rfl⟩ : ∃ b, ob = some b := by
            cases ob with
            | none => have := hcn rfl; omega
            | some b => exact ⟨b, rfl⟩
          obtain ⟨he0, hcap', hF, c, e, ⟨fr, hb, _⟩, hcs, hle', hj⟩ := row_at hob hM
          subst he0
          have hml : m.length = len := by rw [← h]; simp; omega
          have hget' : ∀ (i : Nat) (x : List AVal), m[i]? = some x → l[off + i]? = some x := by
            intro i x hx
            rw [← h, List.getElem?_take] at hx
            split at hx
            · simpa using hx
            · cases hx
          have he : esz1 = esz := by
            obtain ⟨y, ys, rfl⟩ := List.exists_cons_of_ne_nil hne
            have h1 := hle' _ y (hget' 0 y rfl)
            have h2 := (hm y (by simp)).1
            omega
          subst he
          have hroom : (off + len) * esz1 ≤ cap * esz1 := Nat.mul_le_mul_right _ (by omega)
          rw [Nat.add_mul] at hroom
          rw [ha b rfl (by omega), ← hml]
          refine ⟨hne, _, _, _, rfl, RowRep.of_block (c := c) (off := off * esz1) (by rw [hml, hcs]; omega) (fun i x hx => hle' _ x (hget' i x hx)) (fun i j x y hx hy => ?_), RowRep.block_cells hb⟩
          have := hj _ j x y (hget' i x hx) hy
          rwa [Nat.add_mul] at this
      · cases h
    · cases h
  · cases h

/-- A row that is an own thing now, of a block that holds it from its beginning on. -/
theorem row_obj {G : Gh} {w : World} {id g esz b cap : Nat} {l : List (List AVal)} {c : Array Value} {e : TypeId} {xs : List Value} (hM : G.M id g = some ⟨some b, cap, esz⟩) (hF : G.F b = none) (hb : RowAt w b c e)
    (hc : c.size = cap * esz) (hl : l.length ≤ cap) (hbig : l.length ≤ bigLen) (hcap : cap ≤ maxLen) (hz : 0 < esz) (htake : c.toList.take (l.length * esz) = xs) (hr : RowRep G esz l xs) : ObjOk G w id g (.row esz l) := by
  refine ⟨some b, cap, hM, hl, hbig, hz, hr.each, hr.cell, fun h => (by cases h), fun b' hb' => ?_⟩
  simp only [Option.some.injEq] at hb'
  subst hb'
  refine ⟨hF, hcap, c, e, hb, hc, fun i j x y hx hy => ?_⟩
  have hj : j < esz := by have := lt_of_get hy; rw [hr.each _ _ hx] at this; exact this
  have hroom := mul_room (esz := esz) (lt_of_get hx) (Nat.le_refl _)
  have := hr.rep i j x y hx hy
  have e2 : xs.getD (i * esz + j) undef = c.getD (i * esz + j) undef := by
    rw [← htake]
    simp only [List.getD_eq_getElem?_getD, List.getElem?_take, Array.getElem?_toList, Array.getD_eq_getD_getElem?]
    rw [if_pos (by omega)]
  rwa [e2] at this

theorem osl_rep {G : Gh} {id g esz b cap n : Nat} (hM : G.M id g = some ⟨some b, cap, esz⟩) (h : n ≤ cap) (hb : n ≤ bigLen) : Rep G true (.osl id g 0 n) (.slice (some ⟨b, 0, none⟩) n cap) := by
  have := Rep.osl (off := 0) (len := n) (a := some ⟨b, 0, none⟩) hM (by omega) hb (fun h => by cases h) (fun b' hb' _ => by simp only [Option.some.injEq] at hb'; subst hb'; simp) (fun b' hb' _ => by simp only [Option.some.injEq] at hb'; subst hb'; rfl)
  simpa using this

/-- Appending nothing. -/
theorem run_append_nothing {t ty e : TypeId} {i2 : TypeInfo} {d2 : TypeDesc} {z2 : Value} (hu : P.underlying t = some (.slice e)) (k2 : Known P L e i2 d2 z2) {w : World} {a a' : Option Addr} {n cap c : Nat} (hn : n ≤ cap) :
    (Builtin.append_ #[t, t] ty #[.slice a n cap, .slice a' 0 c]).run P w = .ok (.slice a n cap) w := by
  have hf : (Builtin.firstCells (L e).sz 0 (.slice a' 0 c)).run P w = .ok #[] w := by
    cases a' with
    | none => simp [Builtin.firstCells]
    | some b => simp [Builtin.firstCells, loadCells, loadCellsFrom]
  cases a <;> simp [Builtin.append_, run_underlying hu, run_sizeOf' k2 w, Builtin.lenOf, hn, hf, storeCells]

theorem fresh_none {G : Gh} {w : World} (hw : WOk G w) : G.F w.heap.size = none := by
  cases hF : G.F w.heap.size with
  | none => rfl
  | some o => have := (Array.getElem?_eq_some_iff.1 (hw.F _ _ hF)).1; omega

theorem grown_facts {w : World} {need old : Nat} {e : TypeId} (h : need ≤ bigLen) : need ≤ grownCap w need old e ∧ grownCap w need old e ≤ maxLen :=
  ⟨grownCap_ge w need old e, grownCap_le_maxLen w need old e (by unfold bigLen at h; unfold maxLen; omega)⟩

/-- What stands behind an append that took a new block. -/
theorem append_new {d : Nat} {G : Gh} {w : World} {sto : Sto} {T : AVal → Sto → Prop} {l m : List (List AVal)} {esz capN : Nat} {olds news : List Value} {e : TypeId} {zs : Array Value} {v : Sem Value} (hw : WOk G w) (hs : StoOk G w sto) (hz : 0 < esz)
    (hl : RowRep G esz l olds) (hm : RowRep G esz m news) (hbig : l.length + m.length ≤ bigLen) (hcap : l.length + m.length ≤ capN) (hcap2 : capN ≤ maxLen) (hzs : zs.size = esz)
    (hrun : v.run P w = .ok (.slice (some ⟨w.heap.size, 0, none⟩) (l.length + m.length) capN) (w.drew.alloc (.cells (olds.toArray ++ news.toArray ++ Builtin.zeroCells zs (capN - (l.length + m.length))) e)))
    (hT : ∀ h, T (.osl d h 0 (l.length + m.length)) (sput sto d (h, .row esz (l ++ m)))) : Runs P v G w T := by
  have hrr := hl.append hm
  have hext := newG_ext hw d ⟨some w.heap.size, capN, esz⟩
  have hcs : (olds.toArray ++ news.toArray ++ Builtin.zeroCells zs (capN - (l.length + m.length))).size = capN * esz := by
    simp only [Array.size_append, List.size_toArray, size_zeroCells, hzs, hl.len, hm.len, ← Nat.add_mul]
    congr 1; omega
  have htake : (olds.toArray ++ news.toArray ++ Builtin.zeroCells zs (capN - (l.length + m.length))).toList.take ((l ++ m).length * esz) = olds ++ news := by
    simp only [Array.toList_append, List.append_assoc]
    rw [← List.append_assoc, ← hrr.len]
    exact List.take_left
  obtain ⟨a, b, c⟩ := sto_put (w' := w.drew.alloc (.cells (olds.toArray ++ news.toArray ++ Builtin.zeroCells zs (capN - (l.length + m.length))) e)) (id := d) (o := .row esz (l ++ m)) (hd := ⟨some w.heap.size, capN, esz⟩) ((Kept.drew w).trans (Kept.alloc _ _ _)) hw hs (by simp)
    (fun b hb _ => heap_alloc_old w.drew _ b hb) (fun b hb => by simp only [Option.some.injEq] at hb; subst hb; exact ⟨by simp, .inl (Nat.le_refl _)⟩)
    (row_obj (xs := olds ++ news) (newG_M _ _ _) (show G.F w.heap.size = none from fresh_none hw) (.zero (heap_alloc_new w.drew _)) hcs (by simpa using hcap) (by simpa using hbig) hcap2 hz htake (hrr.mono hext.toMono))
  exact ⟨_, _, _, _, _, hrun, a, b, c, osl_rep (newG_M _ _ _) hcap hbig, hT _⟩

theorem zero_size {e : Nat} {i2 : TypeInfo} {d2 : TypeDesc} {z2 : Value} (k2 : Known P L e i2 d2 z2) : z2.cells.size = (L e).zero.length := by
  have := zerosAre_length _ _ k2.zeros
  simpa using this.symm

theorem append_room_run {t ty e e' : TypeId} {i2 : TypeInfo} {d2 : TypeDesc} {z2 : Value} (hu : P.underlying t = some (.slice e)) (k2 : Known P L e i2 d2 z2) {w : World} {g sLen sCap : Nat} {cur : Array Value} (hg : RowAt w g cur e')
    {a : Addr} {m c : Nat} {news : List Value} (hl : news.length = m * (L e).sz) (hnews : ∀ (j : Nat) (u : Value), news[j]? = some u → w.cell? (a.add j) = some u) (h1 : ∀ u ∈ news, u.oneCell' = true)
    (hroom : sLen + m ≤ sCap) (hfit : sLen * (L e).sz + news.length ≤ cur.size) :
    (Builtin.append_ #[t, t] ty #[.slice (some ⟨g, 0, none⟩) sLen sCap, .slice (some a) m c]).run P w =
      .ok (.slice (some ⟨g, 0, none⟩) (sLen + m) sCap) (w.setRow g (cur.toList.take (sLen * (L e).sz) ++ news ++ cur.toList.drop (sLen * (L e).sz + news.length)).toArray) := by
  have hf := run_firstCells_some (P := P) w (L e).sz m a m c news hl hnews
  obtain ⟨fr, hg, hfr⟩ := hg
  have hst := storeCells_row P g (sLen * (L e).sz) e' fr news 0 cur w hg hfr (by simpa using hfit) h1
  simp only [Nat.add_zero] at hst
  simp [Builtin.append_, run_underlying hu, run_sizeOf' k2 w, Builtin.lenOf, hroom, hf, addr_lit, hst]

theorem append_sound (hL : LOk P L) {t t2 ty d : Nat} (ht : (L t).ty ≠ .other) {x y : AVal} {v u : Value} {G : Gh} {w : World} {sto : Sto} {T : AVal → Sto → Prop} (hw : WOk G w) (hs : StoOk G w sto)
    (hx : Rep G true x v) (hy : Rep G true y u) (hzero : ∀ e, (L t).ty = .slice e → (L e).zero.length = (L e).sz) (h : vcAppend L d t t2 x y sto T) : Runs P (Builtin.append_ #[t, t2] ty #[v, u]) G w T := by
  obtain ⟨i, dd, z, k⟩ := hL.known ht
  obtain ⟨rfl, h⟩ := h
  split at h
  · rename_i e he
    obtain ⟨rfl, heo⟩ := desc_slice k he
    obtain ⟨i2, d2, z2, k2⟩ := hL.known heo
    obtain ⟨m, hm, hz, hme, h⟩ := h
    have hu := k.und
    have hzs : z2.cells.size = (L e).sz := by rw [zero_size k2]; exact hzero e he
    have hsrc := elems_sound hw hs hy hm hme hz
    have hgrowE : ∀ (d : Nat) (a : Option Addr), (∀ h, T (.osl d h 0 (0 + m.length)) (sput sto d (h, .row (L e).sz ([] ++ m)))) → m.length ≤ bigLen → m.length * (L e).by8 ≤ bigLen →
        ∀ (ad : Addr) (c' : Nat) (news : List Value), m ≠ [] → RowRep G (L e).sz m news → (∀ (j : Nat) (u : Value), news[j]? = some u → w.cell? (ad.add j) = some u) →
        Runs P (Builtin.append_ #[t2, t2] ty #[.slice a 0 0, .slice (some ad) m.length c']) G w T := by
      intro d a hT hbig hby ad c' news hne hnews hcells
      have hmpos : 0 < m.length := List.length_pos_iff.2 hne
      have hm0 : news.length = m.length * (L e).sz := hnews.len
      have hgf := grown_facts (w := w) (old := 0) (e := e) hbig
      cases a with
      | none =>
        have hr := run_append_nil (P := P) w t2 ty e i2 z2 hu k2.info k2.zero ad m.length c' news (by rw [hm0, k2.size]) hcells hmpos (by unfold bigLen at hbig; omega) (by rw [k2.bytes]; unfold bigLen at hby; omega)
        exact append_new (l := []) (olds := []) (zs := z2.cells) (e := e) hw hs hz RowRep.nil hnews (by simpa using hbig) (by simpa using hgf.1) hgf.2 hzs (by simpa using hr) hT
      | some b =>
        have hr := run_append_grow (P := P) w t2 ty e i2 z2 hu k2.info k2.zero b 0 0 [] (by simp) (fun j v h => by simp at h) ad m.length c' news (by rw [hm0, k2.size]) hcells (by omega) (by unfold bigLen at hbig; omega)
          (growslice_fits (by omega) (by rw [k2.bytes, Nat.zero_add]; exact hby))
        exact append_new (l := []) (olds := []) (zs := z2.cells) (e := e) hw hs hz RowRep.nil hnews (by simpa using hbig) (by simpa using hgf.1) hgf.2 hzs (by simpa using hr) hT
    split at h
    · rename_i id g off len
      split at h
      case h_2 => exact h.elim
      rename_i g' esz l hget
      obtain ⟨rfl, rfl, rfl, rfl, hby, hbig, hT⟩ := h
      obtain ⟨ob, cap, esz1, a, rfl, hM, hcap, _, hcn, ha, ha0⟩ := Rep.osl_inv' hx
      have hob := hs.obj _ _ _ hget
      obtain ⟨ob', cap', hM', o1, o2, o3, o4, o5, o6, o7⟩ := hob
      have hMM := hM'
      rw [hM] at hM'
      simp only [Option.some.injEq, Hd.mk.injEq] at hM'
      obtain ⟨rfl, rfl, rfl⟩ := hM'
      simp only [Nat.sub_zero, Nat.zero_add] at hcap ⊢
      rcases hsrc with ⟨rfl, a', c', rfl⟩ | ⟨hne, ad, c', news, rfl, hnews, hcells⟩
      · -- nothing is appended
        have hext := newG_ext hw id ⟨ob, cap, (L e).sz⟩
        have hblk : blkOf G id g' = ob := by simp [blkOf, hMM]
        obtain ⟨b1, b2, b3⟩ := sto_put (w' := w) (id := id) (o := .row (L e).sz (l ++ [])) (hd := ⟨ob, cap, (L e).sz⟩) (Kept.refl _) hw hs (Nat.le_refl _) (fun _ _ _ => rfl)
          (fun b hb => by
            simp only at hb
            refine ⟨hw.M _ _ _ _ hMM hb, .inr ?_⟩
            simp [oldBlk, hget, hblk, hb])
          ⟨ob, cap, newG_M _ _ _, by simpa using o1, by simpa using o2, o3, by simpa using o4, by simpa using o5, o6, fun b hb => by
            obtain ⟨p1, p2, c, e', p3, p4, p5⟩ := o7 b hb
            exact ⟨p1, p2, c, e', p3, p4, fun i j x y hx hy => (p5 i j x y (by simpa using hx) hy).mono hext.toMono⟩⟩
        have hr := Rep.osl (G := newG G id ⟨ob, cap, (L e).sz⟩) (off := 0) (len := l.length + ([] : List (List AVal)).length) (a := a) (newG_M _ _ _) (by simpa using hcap) (by simpa using hbig) hcn (fun b hb hlt => ha b hb hlt) ha0
        simp only [List.length_nil, Nat.add_zero, Nat.sub_zero] at hr
        exact ⟨newG G id ⟨ob, cap, (L e).sz⟩, w, _, .osl id G.N 0 l.length, _, run_append_nothing hu k2 hcap, b1, b2, b3, hr, by simpa using hT G.N⟩
      · have hm0 : news.length = m.length * (L e).sz := hnews.len
        cases ob with
        | none =>
          have hcap0 := hcn rfl
          subst hcap0
          have hl0 : l = [] := List.eq_nil_of_length_eq_zero (by omega)
          subst hl0
          exact hgrowE id a hT (by simpa using hbig) (by simpa using hby) ad c' news hne hnews hcells
        | some b =>
          have hav := ha0 b rfl rfl
          subst hav
          obtain ⟨_, hcapL, hF, c, e', hrow, hcs, hle, hj⟩ := row_at (hs.obj _ _ _ hget) hMM
          have hrow2 := hrow
          obtain ⟨fr, hb, hfr⟩ := hrow2
          have hblk : blkOf G id g' = some b := by simp [blkOf, hMM]
          have hcm : cap ≤ maxLen := (o7 b rfl).2.1
          have hlr : RowRep G (L e).sz l (c.toList.take (l.length * (L e).sz)) := by
            have := RowRep.of_block (G := G) (c := c) (off := 0) (l := l) (esz := (L e).sz) (by rw [hcs, Nat.zero_add]; exact Nat.mul_le_mul_right _ hcap) hle (fun i j x y hx hy => by simpa using hj i j x y hx hy)
            simpa using this
          have hlc : ∀ (j : Nat) (u : Value), (c.toList.take (l.length * (L e).sz))[j]? = some u → w.cell? ((⟨b, 0, none⟩ : Addr).add j) = some u := by
            have := RowRep.block_cells (off := 0) (n := l.length * (L e).sz) hb
            simpa using this
          by_cases hroom : l.length + m.length ≤ cap
          · have hfit : l.length * (L e).sz + news.length ≤ c.size := by rw [hm0, hcs, ← Nat.add_mul]; exact Nat.mul_le_mul_right _ hroom
            have hr := append_room_run (P := P) (ty := ty) (c := c') hu k2 hrow hm0 hcells (hnews.oneCell hz) hroom hfit
            have hext := newG_ext hw id ⟨some b, cap, (L e).sz⟩
            have hrr := hlr.append hnews
            obtain ⟨b1, b2, b3⟩ := sto_put (w' := w.setRow b (c.toList.take (l.length * (L e).sz) ++ news ++ c.toList.drop (l.length * (L e).sz + news.length)).toArray) (id := id) (o := .row (L e).sz (l ++ m)) (hd := ⟨some b, cap, (L e).sz⟩) (Kept.setRow _ _ _) hw hs (by simp)
              (fun b' _ hne => setRow_other w b b' _ (fun e => hne (by simp [oldBlk, hget, hblk, e])))
              (fun b' hb' => by
                simp only [Option.some.injEq] at hb'
                subst hb'
                refine ⟨by simpa using hw.M _ _ _ _ hMM rfl, .inr ?_⟩
                simp [oldBlk, hget, hblk])
              (row_obj (xs := c.toList.take (l.length * (L e).sz) ++ news) (newG_M _ _ _) hF ⟨fr, setRow_heap w b c _ e' _ hb, by rw [splice_size c _ _ hfit]; exact hfr⟩ (by rw [splice_size c _ _ hfit]; exact hcs) (by simpa using hroom) (by simpa using hbig) hcm hz
                (by rw [← hrr.len]; exact List.take_left) (hrr.mono hext.toMono))
            exact ⟨_, _, _, _, _, hr, b1, b2, b3, osl_rep (newG_M _ _ _) hroom hbig, hT _⟩
          · have hr := run_append_grow (P := P) w t2 ty e i2 z2 hu k2.info k2.zero ⟨b, 0, none⟩ l.length cap (c.toList.take (l.length * (L e).sz)) (by rw [hlr.len, k2.size]) hlc ad m.length c' news (by rw [hm0, k2.size]) hcells (by omega) (by unfold bigLen at hbig; omega)
              (growslice_fits (by omega) (by rw [k2.bytes]; exact hby))
            have hgf := grown_facts (w := w) (old := cap) (e := e) hbig
            exact append_new hw hs hz hlr hnews hbig hgf.1 hgf.2 hzs hr hT
    · rename_i q full l
      obtain ⟨rfl, hle, hby, hbig, hne0, hT⟩ := h
      by_cases hl : l = []
      · subst hl
        obtain ⟨a, cap, rfl, _, _, hfull⟩ := hx.sl_len
        have hc0 : cap = 0 := by simpa using hfull rfl
        subst hc0
        rcases hsrc with ⟨rfl, a', c', rfl⟩ | ⟨hne, ad, c', news, rfl, hnews, hcells⟩
        · have hext := newG_ext hw d ⟨none, 0, (L e).sz⟩
          obtain ⟨b1, b2, b3⟩ := sto_put (w' := w) (id := d) (o := .row (L e).sz []) (hd := ⟨none, 0, (L e).sz⟩) (Kept.refl _) hw hs (Nat.le_refl _) (fun _ _ _ => rfl)
            (fun b hb => by cases hb)
            ⟨none, 0, newG_M _ _ _, by simp, by simp, hz, fun i x h => by simp at h, fun i j x y h => by simp at h, fun _ => rfl, fun b hb => by cases hb⟩
          have hr := Rep.osl (G := newG G d ⟨none, 0, (L e).sz⟩) (off := 0) (len := 0) (a := a) (newG_M _ _ _) (Nat.le_refl _) (Nat.zero_le _) (fun _ => rfl) (fun b hb => by cases hb) (fun b hb => by cases hb)
          exact ⟨_, w, _, _, _, run_append_nothing hu k2 (Nat.le_refl _), b1, b2, b3, hr, by simpa using hT G.N⟩
        · exact hgrowE d a hT (by simpa using hbig) (by simpa using hby) ad c' news hne hnews hcells
      · have hmne : m ≠ [] := hne0.resolve_right hl
        obtain ⟨b, off, cap, c, e', fr, esz', rfl, hlc, _, hq, hF, hfit, hlen, hj⟩ := hx.sl_at hl
        have hcap : cap = l.length := by
          obtain ⟨a2, cap2, h1, _, _, h2⟩ := hx.sl_len
          simp only [Value.slice.injEq] at h1
          rw [h1.2.2]; exact h2 rfl
        subst hcap
        have hesz : esz' = (L e).sz := by
          obtain ⟨y, ys, rfl⟩ := List.exists_cons_of_ne_nil hl
          have h1 := hlen 0 y rfl
          have h2 := (hle y (by simp)).1
          omega
        subst hesz
        rcases hsrc with ⟨h0, _⟩ | ⟨hne, ad, c', news, rfl, hnews, hcells⟩
        · exact absurd h0 hmne
        · have hb := hw.F _ _ hF
          have hlr := RowRep.of_block (G := G) hfit hlen hj
          have hmpos : 0 < m.length := List.length_pos_iff.2 hne
          have hr := run_append_grow (P := P) w t2 ty e i2 z2 hu k2.info k2.zero ⟨b, off, none⟩ l.length l.length _ (by rw [hlr.len, k2.size]) (RowRep.block_cells hb) ad m.length c' news (by rw [hnews.len, k2.size]) hcells (by omega) (by unfold bigLen at hbig; omega)
            (growslice_fits (by omega) (by rw [k2.bytes]; exact hby))
          have hgf := grown_facts (w := w) (old := l.length) (e := e) hbig
          exact append_new hw hs hz hlr hnews hbig hgf.1 hgf.2 hzs hr hT
    · exact h.elim
  · exact h.elim
end Go.Rad
