/- Lists made, structs built, slices, maps: what the machine does where the reduction's conditions hold. -/
import Derived.Test.YtapigofiboihiaaKROps1
import Derived.Laws.IdiomStrings
import Derived.MapKept
set_option linter.all false
namespace Go.Rad
open Go
variable {P : Program} {L : Lay}

theorem unary_sound {op : UnOp} {x : AVal} {v : Value} {T : AVal → Prop} {G : Gh} {w : World} {sto : Sto} (hw : WOk G w) (hs : StoOk G w sto) (hx : Rep G true x v) (h : vcUn op x T) :
    Runs P (Op.unary op v) G w fun r s => T r ∧ s = sto := by
  unfold vcUn at h
  split at h
  · have := Rep.bool_inv' hx; subst this
    exact Runs.pure hw hs (by simp [Op.unary]) .bool ⟨h, rfl⟩
  · rename_i k n
    obtain ⟨rfl, _⟩ := Rep.int_inv' hx
    obtain ⟨r, h1, h2⟩ := arith_rep (G := G) h
    exact Runs.pure hw hs (by simp [Op.unary, Op.intArith]) h1 ⟨h2, rfl⟩
  · rename_i k n
    obtain ⟨rfl, _⟩ := Rep.int_inv' hx
    exact Runs.pure hw hs (v := .int k (bitsOf .xor k (if k.signed then -1 else k.max) n)) (by simp [Op.unary, Op.intBits, bitsOf]) (.int (fits_wrap _ _)) ⟨h, rfl⟩
  · exact h.elim

theorem strOf_spec : ∀ {l : List (List AVal)} {bs : List UInt8}, strOf l = some bs → bs.length = l.length ∧ ∀ (i : Nat) (x : List AVal), l[i]? = some x → ∃ n, x = [.int .u8 n] ∧ bs[i]? = some (UInt8.ofNat n.toNat)
  | [], bs, h => by simp only [strOf, Option.some.injEq] at h; subst h; exact ⟨rfl, fun i x h => by simp at h⟩
  | y :: l, bs, h => by
    unfold strOf at h
    split at h
    · rename_i h1; cases h1
    · rename_i n r h1
      cases h1
      obtain ⟨b2, h2, rfl⟩ := Option.map_eq_some_iff.1 h
      obtain ⟨h3, h4⟩ := strOf_spec h2
      refine ⟨by simp [h3], fun i x hx => ?_⟩
      cases i with
      | zero => simp only [List.getElem?_cons_zero, Option.some.injEq] at hx; subst hx; exact ⟨n, rfl, rfl⟩
      | succ i => simp only [List.getElem?_cons_succ] at hx ⊢; exact h4 i x hx
    · cases h
theorem convert_sound (hL : LOk P L) {s t : Nat} (ht : (L t).ty ≠ .other) {x : AVal} {v : Value} {T : AVal → Prop} {G : Gh} {w : World} {sto : Sto} (hw : WOk G w) (hs : StoOk G w sto) (hx : Rep G true x v) (h : vcConvert L s t x T) :
    Runs P (convert s t v) G w fun r s => T r ∧ s = sto := by
  obtain ⟨i, d, z, k⟩ := hL.known ht
  obtain ⟨hso, h⟩ := h
  obtain ⟨i2, d2, z2, k2⟩ := hL.known hso
  have hu := k.und
  have hu2 := k2.und
  split at h
  · rename_i kk kk' n he
    obtain ⟨rfl, _⟩ := Rep.int_inv' hx
    have hd : d = .int kk := by
      have := k.desc
      rw [he] at this
      cases d <;> simp [descIs] at this
      rw [this]
    subst hd
    refine Runs.pure hw hs (v := .int kk (kk.wrap n)) ?_ (.int (fits_wrap _ _)) ⟨h, rfl⟩
    simp only [convert, Sem.run_bind, run_underlying hu, run_underlying hu2, Result.andThen_ok]
    cases d2 <;> rfl
  · rename_i s' he
    obtain ⟨hss, hT⟩ := h
    obtain ⟨rfl, hb⟩ := Rep.str_inv' hx
    have h1 := desc_string k he
    have h2 := desc_string k2 hss
    subst h1 h2
    refine Runs.pure hw hs (v := .string s') ?_ (.str hb) ⟨hT, rfl⟩
    simp [convert, run_underlying hu, run_underlying hu2]
  · rename_i q full l he
    obtain ⟨⟨e, hse, heu⟩, bs, hbs, hT⟩ := h
    have h1 := desc_string k he
    obtain ⟨h2, heo⟩ := desc_slice k2 hse
    subst h1 h2
    obtain ⟨i3, d3, z3, k3⟩ := hL.known heo
    have hd3 : d3 = .int .u8 := by
      have := k3.desc
      rw [heu] at this
      cases d3 <;> simp [descIs] at this
      rw [this]
    subst hd3
    have hu3 := k3.und
    obtain ⟨s1, s2⟩ := strOf_spec hbs
    by_cases hne : l = []
    · subst hne
      obtain ⟨a, cap, rfl, _⟩ := hx.sl_len
      have hb0 : bs = [] := List.eq_nil_of_length_eq_zero s1
      subst hb0
      refine Runs.pure hw hs (v := .string ⟨#[]⟩) ?_ (.str (Nat.zero_le _)) ⟨hT, rfl⟩
      cases a with
      | none => simp [convert, run_underlying hu, run_underlying hu2, run_underlying hu3, Conv.bytesToString]; rfl
      | some a => exact run_convert_bytes_back w s t e a cap [] hu2 hu3 hu (fun j hj => by simp at hj)
    · obtain ⟨b, off, cap, c, e', fr, esz, rfl, _, hmax, hq, hF, hfit, hlen, hj⟩ := hx.sl_at hne
      have hesz : esz = 1 := by
        obtain ⟨y, ys, rfl⟩ := List.exists_cons_of_ne_nil hne
        have h1 := hlen 0 y rfl
        obtain ⟨n, rfl, _⟩ := s2 0 y rfl
        simpa using h1.symm
      subst hesz
      refine Runs.pure hw hs (v := .string ⟨bs.toArray⟩) ?_ (.str (by show bs.toArray.size ≤ _; simp only [List.size_toArray]; omega)) ⟨hT, rfl⟩
      rw [← s1]
      refine run_convert_bytes_back w s t e _ cap bs hu2 hu3 hu fun j hjl => ?_
      obtain ⟨n, hxn, hbn⟩ := s2 j (l[j]'(by omega)) (List.getElem?_eq_getElem (by omega))
      have hcell := (hj j 0 _ (.int .u8 n) (List.getElem?_eq_getElem (by omega)) (by rw [hxn]; rfl)).2
      obtain ⟨hv, hf⟩ := Rep.int_inv' hcell.up
      have m1 : IntKind.u8.min = 0 := by kernel_rfl
      have m2 : IntKind.u8.max = 255 := by kernel_rfl
      obtain ⟨f1, f2⟩ := hf
      rw [m1] at f1
      rw [m2] at f2
      have hsz : off + j < c.size := by omega
      rw [addr_lit, cell_of_row w b (off + j) c e' fr (hw.F _ _ hF), Array.getElem?_eq_getElem hsz]
      have e1 : c.getD (off + j * 1 + 0) Go.undef = c[off + j] := by
        rw [Array.getD_eq_getD_getElem?, show off + j * 1 + 0 = off + j by omega, Array.getElem?_eq_getElem hsz]; rfl
      rw [e1] at hv
      rw [hv]
      rw [List.getElem?_eq_getElem hjl] at hbn
      rw [Option.some.inj hbn]
      have : (UInt8.ofNat n.toNat).toNat = n.toNat := by
        rw [UInt8.toNat_ofNat']; exact Nat.mod_eq_of_lt (by omega)
      rw [this, Int.toNat_of_nonneg f1]
  · exact h.elim

theorem nil_sound (hL : LOk P L) {t : Nat} (ht : (L t).ty ≠ .other) {neg : Bool} {x : AVal} {v : Value} {l0 c0 : Nat} {T : Bool → Prop} {G : Gh} {w : World} {sto : Sto} (hw : WOk G w) (hs : StoOk G w sto) (hx : Rep G true x v) (h : vcNil L t x T) :
    Runs P (binOp (if neg then .neq else .eql) t v (.slice none l0 c0)) G w fun r s => (∃ b, r = .bool (if neg then !b else b) ∧ T b) ∧ s = sto := by
  obtain ⟨i, d, z, k⟩ := hL.known ht
  obtain ⟨⟨e, he⟩, h⟩ := h
  obtain ⟨rfl, _⟩ := desc_slice k he
  have hu := k.und
  obtain ⟨a, len, cap, rfl, hb⟩ : ∃ a len cap, v = .slice a len cap ∧ T a.isNone := by
    split at h
    · rename_i q full l
      obtain ⟨a, cap, rfl, _⟩ := hx.sl_len
      refine ⟨a, _, cap, rfl, h _ fun hn => ?_⟩
      by_cases hne : l = []
      · exact hne
      · obtain ⟨b, off, cap', c, e', fr, esz, hv, _⟩ := hx.sl_at hne
        simp only [Value.slice.injEq] at hv
        rw [hv.1] at hn; cases hn
    · rename_i id g off len
      obtain ⟨ob, cap, esz, a, rfl, hM, hc, _, hcn, ha, ha0⟩ := Rep.osl_inv' hx
      refine ⟨a, _, _, rfl, h _ fun hn => ?_⟩
      cases ob with
      | none => have := hcn rfl; omega
      | some b =>
        by_cases hlt : off < cap
        · rw [ha b rfl hlt] at hn; cases hn
        · omega
    · exact h.elim
  have hr : (Op.equal t (.slice a len cap) (.slice none l0 c0)).run P w = .ok a.isNone w := by
    show (Op.equalIn (9999 + 1) t (.slice a len cap) (.slice none l0 c0)).run P w = _
    rw [Op.equalIn]
    cases a <;> simp [run_underlying hu]
  refine Runs.pure hw hs (v := .bool (if neg then !a.isNone else a.isNone)) ?_ .bool ⟨⟨_, rfl, hb⟩, rfl⟩
  cases neg
  · simp only [Bool.false_eq_true, if_false, binOp, Sem.run_bind, hr, Result.andThen_ok, Sem.run_pure]
  · simp only [if_true, binOp, Sem.run_bind, hr, Result.andThen_ok, Sem.run_pure]

theorem max2usound {k : IntKind} {a b : Int} {G : Gh} {w : World} {sto : Sto} {T : AVal → Sto → Prop} {ts : Array TypeId} {ty : TypeId} (hw : WOk G w) (hs : StoOk G w sto) (ha : fits k a) (hb : fits k b)
    (h : T (.int k (max a b)) sto) : Runs P (Builtin.max_ ts ty #[.int k a, .int k b]) G w T :=
  Runs.pure hw hs (v := .int k (max a b)) (by simp [Builtin.max_, Builtin.max2]; split <;> omega) (.int (by rw [Int.max_def]; split <;> assumption)) h

theorem min2usound {k : IntKind} {a b : Int} {G : Gh} {w : World} {sto : Sto} {T : AVal → Sto → Prop} {ts : Array TypeId} {ty : TypeId} (hw : WOk G w) (hs : StoOk G w sto) (ha : fits k a) (hb : fits k b)
    (h : T (.int k (min a b)) sto) : Runs P (Builtin.min_ ts ty #[.int k a, .int k b]) G w T :=
  Runs.pure hw hs (v := .int k (min a b)) (by simp [Builtin.min_, Builtin.min2]; split <;> omega) (.int (by rw [Int.min_def]; split <;> assumption)) h

theorem make_cell {G : Gh} {e : Nat} {i2 : TypeInfo} {d2 : TypeDesc} {z2 : Value} (k2 : Known P L e i2 d2 z2) (hsz : (L e).zero.length = (L e).sz) (hz : 0 < (L e).sz) (n : Nat) :
    RowRep G (L e).sz (List.replicate n (L e).zero) (madeCells z2.cells (n * (L e).sz)).toList := by
  have hl : z2.cells.size = (L e).sz := by rw [zero_size k2, hsz]
  have hget : ∀ (i : Nat) (x : List AVal), (List.replicate n (L e).zero)[i]? = some x → x = (L e).zero ∧ i < n := by
    intro i x hx
    have := List.mem_of_getElem? hx
    refine ⟨(List.mem_replicate.1 this).2, by have := lt_of_get hx; simpa using this⟩
  refine ⟨by simp [size_madeCells], fun i x hx => by rw [(hget i x hx).1, hsz], fun i j x y hx hy => ?_, fun i j x y hx hy => ?_⟩
  · obtain ⟨rfl, _⟩ := hget i x hx
    obtain ⟨v, _, hv⟩ := zerosAre_get _ _ k2.zeros j y hy
    exact (zeroIs_rep (G := G) hv).1
  · obtain ⟨rfl, hi⟩ := hget i x hx
    obtain ⟨v, hv1, hv⟩ := zerosAre_get _ _ k2.zeros j y hy
    have hj : j < (L e).sz := by have := lt_of_get hy; omega
    have hroom := mul_room (esz := (L e).sz) hi (Nat.le_refl _)
    have hmod : (i * (L e).sz + j) % (L e).sz = j := by rw [Nat.mul_comm, Nat.mul_add_mod, Nat.mod_eq_of_lt hj]
    have : (madeCells z2.cells (n * (L e).sz)).toList.getD (i * (L e).sz + j) undef = v := by
      have hlt : i * (L e).sz + j < n * (L e).sz := by omega
      have hjz : j < z2.cells.size := by omega
      simp only [Array.getElem?_toList, Array.getElem?_eq_getElem hjz, Option.some.injEq] at hv1
      have e3 : z2.cells[j]! = z2.cells[j] := getElem!_pos z2.cells j hjz
      simp [madeCells, List.getD_eq_getElem?_getD, hlt, hl, hmod, e3, hv1]
    rw [this]; exact (zeroIs_rep (G := G) hv).2.2

/-- A new block that is an own list. -/
theorem newrow_sound {d n : Nat} {G : Gh} {w : World} {sto : Sto} {T : AVal → Sto → Prop} {l : List (List AVal)} {esz : Nat} {c : Array Value} {e : TypeId} {v : Sem Value} (hw : WOk G w) (hs : StoOk G w sto) (hz : 0 < esz)
    (hl : RowRep G esz l c.toList) (hn : l.length = n) (hbig : n ≤ bigLen)
    (hrun : v.run P w = .ok (.slice (some ⟨w.heap.size, 0, none⟩) n n) (w.alloc (.cells c e))) (hT : ∀ h, T (.osl d h 0 n) (sput sto d (h, .row esz l))) : Runs P v G w T := by
  subst hn
  have hext := newG_ext hw d ⟨some w.heap.size, l.length, esz⟩
  have hcs : c.size = l.length * esz := by have := hl.len; simpa using this
  obtain ⟨a, b, c'⟩ := sto_put (w' := w.alloc (.cells c e)) (id := d) (o := .row esz l) (hd := ⟨some w.heap.size, l.length, esz⟩) (Kept.alloc _ _ _) hw hs (by simp)
    (fun b hb _ => heap_alloc_old w _ b hb) (fun b hb => by simp only [Option.some.injEq] at hb; subst hb; exact ⟨by simp, .inl (Nat.le_refl _)⟩)
    (row_obj (xs := c.toList) (newG_M _ _ _) (show G.F w.heap.size = none from fresh_none hw) (.zero (heap_alloc_new w _)) hcs (Nat.le_refl _) hbig (by unfold bigLen at hbig; unfold maxLen; omega) hz (by rw [List.take_of_length_le (by simp [hcs])]) (hl.mono hext.toMono))
  exact ⟨_, _, _, _, _, hrun, a, b, c', osl_rep (newG_M _ _ _) (Nat.le_refl _) hbig, hT _⟩

theorem make_sound (hL : LOk P L) {t d : Nat} (ht : (L t).ty ≠ .other) {x y : AVal} {v u : Value} {G : Gh} {w : World} {sto : Sto} {T : AVal → Sto → Prop} (hw : WOk G w) (hs : StoOk G w sto)
    (hx : Rep G true x v) (hy : Rep G true y u) (hzero : ∀ e, (L t).ty = .slice e → (L e).zero.length = (L e).sz) (h : vcMake L d t x y sto T) : Runs P (Instr.makeSlice t v u) G w T := by
  obtain ⟨i, dd, z, k⟩ := hL.known ht
  unfold vcMake at h
  split at h
  · rename_i e n c he
    obtain ⟨rfl, heo⟩ := desc_slice k he
    obtain ⟨i2, d2, z2, k2⟩ := hL.known heo
    obtain ⟨h0, rfl, hby, hbig, hz, hT⟩ := h
    obtain ⟨rfl, _⟩ := Rep.int_inv' hx
    obtain ⟨rfl, _⟩ := Rep.int_inv' hy
    have hr := run_make (P := P) w t e i2 z2 k.und k2.info k2.zero .i64 .i64 n n h0 (Int.le_refl _) (by rw [k2.bytes, Int.mul_comm]; unfold bigLen at hby; omega) (by unfold bigLen at hbig; omega)
    rw [k2.size] at hr
    exact newrow_sound hw hs hz (make_cell k2 (hzero e he) hz n.toNat).nrm (by simp) (by omega) hr hT
  · exact h.elim

theorem fold_cells (off : Nat) : ∀ (vs : List Value) (k : Nat) (cs : Array Value), off + k + vs.length ≤ cs.size →
    (vs.zipIdx k).foldl (fun cs (x : Value × Nat) => cs.setIfInBounds (off + x.2) x.1) cs = (cs.toList.take (off + k) ++ vs ++ cs.toList.drop (off + k + vs.length)).toArray
  | [], k, cs, _ => by simp
  | v :: vs, k, cs, h => by
    simp only [List.length_cons] at h
    simp only [List.zipIdx_cons, List.foldl_cons]
    rw [fold_cells off vs (k + 1) _ (by simp; omega)]
    congr 1
    have e := list_seg_step cs.toList (off + k) v vs (by simp; omega)
    simpa [Array.toList_setIfInBounds, Nat.add_assoc] using e

/-- Cells of the machine and the logic's side by side. -/
structure CellsRep (G : Gh) (cs : List AVal) (c : Array Value) : Prop where
  size : c.size = cs.length
  cell : ∀ (j : Nat) (x : AVal), cs[j]? = some x → x.isCell = true
  rep : ∀ (j : Nat) (x : AVal), cs[j]? = some x → Rep G true x (c.getD j Go.undef)

theorem CellsRep.splice {G : Gh} {cs : List AVal} {c : Array Value} {off : Nat} {x : AVal} {v : Value} (h : CellsRep G cs c) (hx : Rep G true x v) (hwhole : x.isWhole = true) (hfit : off + (cellsOf x).length ≤ cs.length) :
    CellsRep G (splice cs off (cellsOf x)) (v.cells.zipIdx.foldl (fun cs (x : Value × Nat) => cs.setIfInBounds (off + x.2) x.1) c) := by
  obtain ⟨h1, h2⟩ := rep_cells hx hwhole
  have hc := h.size
  have e : v.cells.zipIdx.foldl (fun cs (x : Value × Nat) => cs.setIfInBounds (off + x.2) x.1) c = (c.toList.take off ++ v.cells.toList ++ c.toList.drop (off + v.cells.toList.length)).toArray := by
    have := fold_cells off v.cells.toList 0 c (by simp; omega)
    rw [← Array.foldl_toList, Array.toList_zipIdx]
    simpa using this
  rw [e]
  have hfit' : off + v.cells.toList.length ≤ c.size := by simp; omega
  have hlen : v.cells.toList.length = (cellsOf x).length := by simpa using h1
  refine ⟨by rw [splice_size _ _ _ hfit', splice_length _ _ _ hfit]; exact hc, fun j y hy => ?_, fun j y hy => ?_⟩
  · rw [splice_get _ _ _ hfit] at hy
    split at hy
    · exact (h2 _ _ hy).1
    · exact h.cell _ _ hy
  · rw [splice_get _ _ _ hfit] at hy
    rw [splice_getD _ _ _ hfit']
    split at hy
    · rename_i hin
      rw [if_pos (by omega)]
      obtain ⟨_, u, hu, hr⟩ := h2 _ _ hy
      simp only [List.getD_eq_getElem?_getD, hu, Option.getD_some]
      exact hr
    · rename_i hin
      rw [if_neg (by omega)]
      exact h.rep _ _ hy

/-- The values of parts. -/
def PartsRep (G : Gh) : List (Nat × AVal) → List (Nat × Value) → Prop
  | [], [] => True
  | (i, x) :: ps, (j, v) :: qs => i = j ∧ Rep G true x v ∧ PartsRep G ps qs
  | _, _ => False

theorem fill_sound {G : Gh} {ti : TI} (place : Nat → Option (Nat × Nat))
    (hp : ∀ i off sz, (match ti.ty with
      | .struct fs => (fs[i]?).map fun f => (f.1, (L f.2).sz)
      | .array _ e => some (i * (L e).sz, (L e).sz)
      | .slice e => some (i * (L e).sz, (L e).sz)
      | _ => none) = some (off, sz) → place i = some (off, sz)) :
    ∀ (ps : List (Nat × AVal)) (qs : List (Nat × Value)) (cs res : List AVal) (c : Array Value), PartsRep G ps qs → CellsRep G cs c → fillC L ti cs ps = some res →
      ∃ c', Instr.fill place c qs = some c' ∧ CellsRep G res c'
  | [], [], cs, res, c, _, hc, h => by simp [fillC] at h; subst h; exact ⟨c, rfl, hc⟩
  | [], _ :: _, _, _, _, hq, _, _ => by simp [PartsRep] at hq
  | _ :: _, [], _, _, _, hq, _, _ => by simp [PartsRep] at hq
  | (i, x) :: ps, (j, v) :: qs, cs, res, c, hq, hc, h => by
    obtain ⟨rfl, hx, hq⟩ := hq
    rw [fillC] at h
    split at h
    · rename_i off sz hpl
      split at h
      · rename_i hcond
        obtain ⟨h1, h2, h3⟩ := hcond
        have hplace := hp i off sz hpl
        obtain ⟨e1, e2⟩ := rep_cells hx h3
        have hsp := hc.splice (off := off) hx h3 (by omega)
        obtain ⟨c', h4, h5⟩ := fill_sound place hp ps qs _ res _ hq hsp h
        refine ⟨c', ?_, h5⟩
        simp only [Instr.fill, hplace]
        rw [if_neg]
        · exact h4
        · have := hc.size
          simp; omega
      · cases h
    · cases h

theorem zero_cells (G : Gh) {e : Nat} {i2 : TypeInfo} {d2 : TypeDesc} {z2 : Value} (k2 : Known P L e i2 d2 z2) : CellsRep G (L e).zero z2.cells := by
  refine ⟨zero_size k2, fun j x hx => ?_, fun j x hx => ?_⟩
  · obtain ⟨v, _, hv⟩ := zerosAre_get _ _ k2.zeros j x hx
    exact (zeroIs_rep (G := G) hv).1
  · obtain ⟨v, hv1, hv⟩ := zerosAre_get _ _ k2.zeros j x hx
    have : z2.cells.getD j Go.undef = v := by
      simp only [Array.getElem?_toList] at hv1
      simp [hv1]
    rw [this]; exact (zeroIs_rep (G := G) hv).2.2.up

theorem build_sound (hL : LOk P L) {t : Nat} (ht : (L t).ty ≠ .other) {ps : List (Nat × AVal)} {qs : Array (Nat × Value)} {G : Gh} {w : World} {sto : Sto} {T : AVal → Sto → Prop} (hw : WOk G w) (hs : StoOk G w sto)
    (hq : PartsRep G ps qs.toList) (h : (L t).ag = true ∧ ∃ cs, fillC L (L t) (L t).zero ps = some cs ∧ T (.agg cs) sto) : Runs P (Instr.build t qs) G w T := by
  obtain ⟨i, d, z, k⟩ := hL.known ht
  obtain ⟨hag, cs, hf, hT⟩ := h
  have hz := zero_cells G k
  have hu := k.und
  have hd := k.desc
  have hagd := k.agg
  rw [hag] at hagd
  cases d with
  | struct gs =>
    cases hty : (L t).ty <;> rw [hty] at hd <;> simp [descIs] at hd
    rename_i fs
    have hsz : ∀ (j o ft : Nat), fs[j]? = some (o, ft) → ∃ f, gs.toList[j]? = some f ∧ f.offset = o ∧ f.type = ft ∧ 0 < (L ft).sz ∧ (L ft).ty ≠ .other := fun j o ft hj => fieldsAre_get fs gs.toList hd j o ft hj
    have hpl : ∃ places, (gs.toList.mapM fun f => (P.info? f.type).map fun i => (f.offset, i.size)) = some places ∧ ∀ (j : Nat) (f : Field), gs.toList[j]? = some f → places[j]? = some (f.offset, (L f.type).sz) := by
      have hlen := fieldsAre_length fs gs.toList hd
      have hall : ∀ f ∈ gs.toList, ∃ i, P.info? f.type = some i ∧ i.size = (L f.type).sz := by
        intro f hfm
        obtain ⟨j, hj, rfl⟩ := List.getElem_of_mem hfm
        have hj' : j < fs.length := by omega
        obtain ⟨g, h1, h2, h3, h4, h5⟩ := hsz j fs[j].1 fs[j].2 (by simp [hj'])
        rw [List.getElem?_eq_getElem hj] at h1
        simp only [Option.some.injEq] at h1
        subst h1
        rw [← h3] at h5
        obtain ⟨i3, d3, z3, k3⟩ := hL.known h5
        exact ⟨i3, k3.info, k3.size⟩
      generalize gs.toList = gl at hall
      clear hlen hsz hd
      induction gl with
      | nil => exact ⟨[], by simp, fun j f h => by simp at h⟩
      | cons g gl ih =>
        obtain ⟨pl, h1, h2⟩ := ih fun f hf => hall f (by simp [hf])
        obtain ⟨i3, h3, h4⟩ := hall g (by simp)
        refine ⟨(g.offset, (L g.type).sz) :: pl, by simp [List.mapM_cons, h1, h3, h4], fun j f hj => ?_⟩
        cases j with
        | zero => simp at hj; subst hj; rfl
        | succ j => simpa using h2 j f (by simpa using hj)
    obtain ⟨places, hp1, hp2⟩ := hpl
    obtain ⟨c', h1, h2⟩ := fill_sound (G := G) (L := L) (ti := L t) (fun x => places.toArray[x]?) (fun j off sz hj => by
      rw [hty] at hj
      simp only at hj
      cases hfj : fs[j]? with
      | none => rw [hfj] at hj; cases hj
      | some p =>
        rw [hfj] at hj
        simp only [Option.map_some, Option.some.injEq, Prod.mk.injEq] at hj
        obtain ⟨f, e1, e2, e3, _⟩ := hsz j p.1 p.2 (by rw [hfj])
        have := hp2 j f e1
        rw [e2, e3] at this
        simp [this, ← hj.1, ← hj.2]) ps qs.toList (L t).zero cs z.cells hq hz hf
    refine Runs.pure hw hs (v := .agg c') (run_build w t qs c' ?_) (.agg h2.size h2.cell h2.rep) hT
    simp only [Program.built, k.info, hu, k.zero, hp1]
    exact h1
  | array n e =>
    cases hty : (L t).ty <;> rw [hty] at hd <;> simp [descIs] at hd
    rename_i n' e'
    obtain ⟨⟨rfl, rfl⟩, heo⟩ := hd
    obtain ⟨i2, d2, z2, k2⟩ := hL.known heo
    obtain ⟨c', h1, h2⟩ := fill_sound (G := G) (L := L) (ti := L t) (fun j => some (j * (L e').sz, (L e').sz)) (fun j off sz hj => by rw [hty] at hj; exact hj) ps qs.toList (L t).zero cs z.cells hq hz hf
    refine Runs.pure hw hs (v := .agg c') (run_build w t qs c' ?_) (.agg h2.size h2.cell h2.rep) hT
    simp only [Program.built, k.info, hu, k.zero, k2.info, k2.size]
    exact h1
  | _ => simp [isAggD] at hagd

theorem chunks_length (sz : Nat) : ∀ (n : Nat) (cs : List AVal), (chunks sz n cs).length = n
  | 0, _ => rfl
  | n + 1, cs => by simp [chunks, chunks_length sz n]

theorem chunks_get (sz : Nat) : ∀ (n : Nat) (cs : List AVal) (i : Nat) (x : List AVal), (chunks sz n cs)[i]? = some x → x = (cs.drop (i * sz)).take sz
  | 0, _, i, x, h => by simp [chunks] at h
  | n + 1, cs, i, x, h => by
    cases i with
    | zero => simp [chunks] at h; simp [h]
    | succ i =>
      simp only [chunks, List.getElem?_cons_succ] at h
      have := chunks_get sz n _ i x h
      rw [this, List.drop_drop]
      congr 2
      rw [Nat.add_mul, Nat.one_mul, Nat.add_comm]

theorem flatten_replicate_get {α : Type} (z : List α) (n k : Nat) (h : k < n * z.length) : ((List.replicate n z).flatten)[k]? = z[k % z.length]? := by
  induction n generalizing k with
  | zero => simp at h
  | succ n ih =>
    simp only [List.replicate_succ, List.flatten_cons, List.getElem?_append]
    by_cases hk : k < z.length
    · rw [if_pos hk, Nat.mod_eq_of_lt hk]
    · rw [if_neg hk, ih (k - z.length) (by rw [Nat.add_mul] at h; omega)]
      congr 1
      rw [← Nat.mod_eq_sub_mod (by omega)]

theorem buildSlice_sound (hL : LOk P L) {t d n : Nat} (ht : (L t).ty ≠ .other) {ps : List (Nat × AVal)} {qs : Array (Nat × Value)} {G : Gh} {w : World} {sto : Sto} {T : AVal → Sto → Prop} (hw : WOk G w) (hs : StoOk G w sto)
    (hq : PartsRep G ps qs.toList) (hzero : ∀ e, (L t).ty = .slice e → (L e).zero.length = (L e).sz) (h : vcBuildSlice L d t n ps sto T) : Runs P (Instr.buildSlice t n qs) G w T := by
  obtain ⟨i, dd, z, k⟩ := hL.known ht
  unfold vcBuildSlice at h
  split at h
  · rename_i e he
    obtain ⟨rfl, heo⟩ := desc_slice k he
    obtain ⟨i2, d2, z2, k2⟩ := hL.known heo
    obtain ⟨hz, hsm, cs, hf, hfz, hT⟩ := h
    have hu := k.und
    have hzl := hzero e he
    have hrow := make_cell (G := G) k2 hzl hz n
    have hc0 : CellsRep G (List.replicate n (L e).zero).flatten (madeCells z2.cells (n * (L e).sz)) := by
      have hget : ∀ (j : Nat) (x : AVal), (List.replicate n (L e).zero).flatten[j]? = some x → ∃ v, z2.cells.toList[j % (L e).sz]? = some v ∧ zeroIs x v = true ∧ j < n * (L e).sz := by
        intro j x hx
        have hj : j < n * (L e).zero.length := by have := lt_of_get hx; simpa using this
        rw [flatten_replicate_get _ _ _ hj, hzl] at hx
        obtain ⟨v, h1, h2⟩ := zerosAre_get _ _ k2.zeros _ x hx
        exact ⟨v, h1, h2, by rw [← hzl]; exact hj⟩
      refine ⟨by simp [size_madeCells, hzl], fun j x hx => ?_, fun j x hx => ?_⟩
      · obtain ⟨v, _, h2, _⟩ := hget j x hx
        exact (zeroIs_rep (G := G) h2).1
      · obtain ⟨v, h1, h2, h3⟩ := hget j x hx
        have hl : z2.cells.size = (L e).sz := by rw [zero_size k2, hzl]
        have hm : j % (L e).sz < z2.cells.size := by rw [hl]; exact Nat.mod_lt _ hz
        have : (madeCells z2.cells (n * (L e).sz)).getD j Go.undef = v := by
          simp only [Array.getElem?_toList, Array.getElem?_eq_getElem hm, Option.some.injEq] at h1
          have e3 : z2.cells[j % (L e).sz]! = z2.cells[j % (L e).sz] := getElem!_pos z2.cells (j % (L e).sz) hm
          simp [madeCells, h3, hl, e3, h1]
        rw [this]; exact (zeroIs_rep (G := G) h2).2.2.up
    obtain ⟨c', h1, h2⟩ := fill_sound (G := G) (L := L) (ti := L t) (fun j => some (j * (L e).sz, (L e).sz)) (fun j off sz hj => by rw [he] at hj; exact hj) ps qs.toList _ cs _ hq hc0 hf
    have hcl : cs.length = n * (L e).sz := by
      have a1 := h2.size
      have : ∀ (ps : List (Nat × AVal)) (cs res : List AVal), fillC L (L t) cs ps = some res → res.length = cs.length := by
        intro ps
        induction ps with
        | nil => intro cs res h; simp [fillC] at h; rw [h]
        | cons p ps ih =>
          intro cs res h
          rw [fillC] at h
          split at h
          · split at h
            · rename_i hc
              rw [ih _ _ h, splice_length _ _ _ (by omega)]
            · cases h
          · cases h
      rw [this _ _ _ hf]
      simp [hzl]
    have hrr : RowRep G (L e).sz (chunks (L e).sz n cs) c'.toList := by
      have hx : ∀ (i : Nat) (x : List AVal), (chunks (L e).sz n cs)[i]? = some x → x = (cs.drop (i * (L e).sz)).take (L e).sz ∧ i * (L e).sz + (L e).sz ≤ cs.length := by
        intro i x h
        have hi := lt_of_get h
        rw [chunks_length] at hi
        exact ⟨chunks_get _ _ _ _ _ h, by rw [hcl]; exact mul_room hi (Nat.le_refl _)⟩
      have hy : ∀ (i j : Nat) (x : List AVal) (y : AVal), (chunks (L e).sz n cs)[i]? = some x → x[j]? = some y → cs[i * (L e).sz + j]? = some y := by
        intro i j x y h hy
        obtain ⟨rfl, _⟩ := hx i x h
        rw [List.getElem?_take] at hy
        split at hy
        · simpa using hy
        · cases hy
      refine ⟨by simp [chunks_length, h2.size, hcl], fun i x h => ?_, fun i j x y h hj => h2.cell _ _ (hy i j x y h hj), fun i j x y h hj => ?_⟩
      · obtain ⟨rfl, h3⟩ := hx i x h; simp; omega
      · have h4 := hy i j x y h hj
        have h5 := (h2.rep _ _ h4).down (List.all_eq_true.1 hfz y (List.mem_of_getElem? h4))
        simpa [List.getD_eq_getElem?_getD] using h5
    refine newrow_sound (c := c') (e := e) hw hs hz hrr.nrm (by simp [chunks_length]) (by
      have : n * 1 ≤ n * (L e).sz := Nat.mul_le_mul_left _ hz
      unfold bigLen; omega) ?_ hT
    have hle : ¬ (n * (L e).sz > 2 ^ 24) := by omega
    have h1' : Instr.fill (fun j => some (j * (L e).sz, (L e).sz)) (Array.map (fun x => z2.cells[x % z2.cells.size]!) (Array.range (n * (L e).sz))) qs.toList = some c' := h1
    by_cases h0 : n * (L e).sz = 0
    · have hn0 : n = 0 := by
        rcases Nat.mul_eq_zero.1 h0 with h | h
        · exact h
        · omega
      subst hn0
      have e0 : ∀ f : Nat → Value, Array.map f (Array.range 0) = #[] := by intro f; simp [Array.range_zero']
      simp only [Nat.zero_mul, e0] at h1'
      simp only [Instr.buildSlice, Sem.run_bind, run_underlying hu, Result.andThen_ok, run_sizeOf' k2, Nat.zero_mul, if_true, e0, h1', newRow]
      rfl
    · simp only [Instr.buildSlice, Sem.run_bind, run_underlying hu, Result.andThen_ok, run_sizeOf' k2, if_neg hle, if_neg h0, Sem.run_pure, zeroValue, typeInfo, run_program, k2.info, k2.zero, h1', newRow]
      rfl
  · exact h.elim
end Go.Rad
/- Slices of lists and texts, maps under texts: what the machine does where the reduction's conditions hold. -/
namespace Go.Rad
open Go
variable {P : Program} {L : Lay}

/-- Optional numbers, with the values that stand for them. -/
def OptRep (G : Gh) : Option AVal → Option Value → Prop
  | none, none => True
  | some x, some v => Rep G true x v
  | _, _ => False

theorem bound_run {x : AVal} {v : Value} {G : Gh} {w : World} {n : Nat} {code : BoundsCode} {Q : Nat → Prop} {df : Nat} (hx : Rep G true x v) (h : intArg (some x) df Q) :
    ∃ k m, v = .int k m ∧ 0 ≤ m ∧ Q m.toNat ∧ (m.toNat ≤ n → (Instr.sliceBound v n code).run P w = .ok m.toNat w) := by
  unfold intArg at h
  split at h
  · contradiction
  · rename_i k m heq
    simp only [Option.some.injEq] at heq
    subst heq
    obtain ⟨rfl, _⟩ := Rep.int_inv' hx
    refine ⟨k, m, rfl, h.1, h.2, fun hn => ?_⟩
    simp only [Instr.sliceBound, asIntOf, Sem.run_bind, Sem.run_pure, Result.andThen_ok]
    rw [if_pos ⟨h.1, by omega⟩]
    rfl
  · exact h.elim

theorem bounds_run {lo hi mx : Option AVal} {vlo vhi vmx : Option Value} {G : Gh} {w : World} {isSlice : Bool} {len cap dm : Nat} {Q : Nat → Nat → Nat → Prop} (hlo : OptRep G lo vlo) (hhi : OptRep G hi vhi) (hmx : OptRep G mx vmx)
    (hmh : mx.isSome = true → hi.isSome = true)
    (h : intArg lo 0 fun l => intArg hi len fun hh => intArg mx dm fun m => Q l hh m) (hQ : ∀ l h m, Q l h m → l ≤ h ∧ (mx = none → h ≤ cap) ∧ (mx.isSome = true → h ≤ m ∧ m ≤ cap)) :
    ∃ l h m, Q l h m ∧ (mx = none → m = dm) ∧ (hi = none → h = len) ∧ (Instr.sliceBounds isSlice len cap vlo vhi vmx).run P w = .ok (l, h, if mx.isSome then m else cap) w := by
  have opt : ∀ (x : Option AVal) (v : Option Value) (df : Nat) (Q : Nat → Prop), OptRep G x v → intArg x df Q → ∃ n, Q n ∧ (x = none → n = df ∧ v = none) ∧ (x.isSome = true → ∃ u, v = some u ∧ ∀ c code, n ≤ c → (Instr.sliceBound u c code).run P w = .ok n w) := by
    intro x v df Q hx hi
    cases x with
    | none =>
      cases v with
      | none => exact ⟨df, hi, fun _ => ⟨rfl, rfl⟩, fun h => by cases h⟩
      | some u => exact hx.elim
    | some y =>
      cases v with
      | none => exact hx.elim
      | some u =>
        obtain ⟨k, m, rfl, h0, hq, _⟩ := bound_run (P := P) (w := w) (n := 0) (code := .index) hx hi
        refine ⟨m.toNat, hq, fun h => (by cases h), fun _ => ⟨_, rfl, fun c code hn => ?_⟩⟩
        simp only [Instr.sliceBound, asIntOf, Sem.run_bind, Sem.run_pure, Result.andThen_ok]
        rw [if_pos ⟨h0, by omega⟩]
        rfl
  obtain ⟨l, h1, l1, l2⟩ := opt lo vlo _ _ hlo h
  obtain ⟨hh, h2, k1, k2⟩ := opt hi vhi _ _ hhi h1
  obtain ⟨m, h3, m1, m2⟩ := opt mx vmx _ _ hmx h2
  obtain ⟨q1, q2, q3⟩ := hQ _ _ _ h3
  refine ⟨l, hh, m, h3, fun e => (m1 e).1, fun e => (k1 e).1, ?_⟩
  cases mx with
  | none =>
    obtain ⟨_, rfl⟩ := m1 rfl
    have hc := q2 rfl
    cases hi with
    | none =>
      obtain ⟨rfl, rfl⟩ := k1 rfl
      cases lo with
      | none => obtain ⟨rfl, rfl⟩ := l1 rfl; simp [Instr.sliceBounds]
      | some x => obtain ⟨u, rfl, hu⟩ := l2 rfl; simp [Instr.sliceBounds, hu _ _ q1]
    | some y =>
      obtain ⟨u2, rfl, hu2⟩ := k2 rfl
      cases lo with
      | none => obtain ⟨rfl, rfl⟩ := l1 rfl; simp [Instr.sliceBounds, hu2 _ _ hc]
      | some x => obtain ⟨u, rfl, hu⟩ := l2 rfl; simp [Instr.sliceBounds, hu _ _ q1, hu2 _ _ hc]
  | some z =>
    obtain ⟨u3, rfl, hu3⟩ := m2 rfl
    obtain ⟨c1, c2⟩ := q3 rfl
    cases hi with
    | none => have := hmh rfl; cases this
    | some y =>
      obtain ⟨u2, rfl, hu2⟩ := k2 rfl
      cases lo with
      | none => obtain ⟨rfl, rfl⟩ := l1 rfl; simp [Instr.sliceBounds, hu2 _ _ c1, hu3 _ _ c2]
      | some x => obtain ⟨u, rfl, hu⟩ := l2 rfl; simp [Instr.sliceBounds, hu _ _ q1, hu2 _ _ c1, hu3 _ _ c2]

theorem take_drop_get {α : Type} (es : List α) (l h i : Nat) (x : α) (hx : ((es.take h).drop l)[i]? = some x) : es[l + i]? = some x ∧ l + i < h := by
  rw [List.getElem?_drop, List.getElem?_take] at hx
  split at hx
  · exact ⟨hx, by assumption⟩
  · cases hx

theorem slice_sound (hL : LOk P L) {t : Nat} (ht : (L t).ty ≠ .other) {x : AVal} {v : Value} {lo hi mx : Option AVal} {vlo vhi vmx : Option Value} {G : Gh} {w : World} {sto : Sto} {T : AVal → Prop} (hw : WOk G w) (hs : StoOk G w sto)
    (hx : Rep G true x v) (hlo : OptRep G lo vlo) (hhi : OptRep G hi vhi) (hmx : OptRep G mx vmx) (hmh : mx.isSome = true → hi.isSome = true) (h : vcSlice L t x lo hi mx sto T) :
    Runs P (Instr.sliceAt t v vlo vhi vmx) G w fun r s => T r ∧ s = sto := by
  obtain ⟨i, d, z, k⟩ := hL.known ht
  have hu := k.und
  unfold vcSlice at h
  split at h
  · rename_i s he
    have := desc_string k he
    subst this
    obtain ⟨rfl, hb⟩ := Rep.str_inv' hx
    obtain ⟨hm, h⟩ := h
    have hmn : mx = none := by cases mx <;> simp at hm; rfl
    subst hmn
    cases vmx with
    | some _ => exact hmx.elim
    | none =>
      obtain ⟨l, hh, m, ⟨⟨h1, h2⟩, h3⟩, _, _, hr⟩ := bounds_run (P := P) (w := w) (isSlice := false) (len := s.size) (cap := s.size) (dm := s.size) (mx := none) (vmx := none) (Q := fun l h _ => (l ≤ h ∧ h ≤ s.size) ∧ T (.str (s.extract l h))) hlo hhi trivial (fun h => by cases h) (by simpa [intArg] using h)
        (fun l h m q => ⟨q.1.1, fun _ => q.1.2, fun h => by cases h⟩)
      refine Runs.pure hw hs (v := .string (s.extract l hh)) ?_ (.str (by rw [ByteArray.size_extract]; omega)) ⟨h3, rfl⟩
      simp only [Option.isSome_none, Bool.false_eq_true, if_false] at hr
      simp [Instr.sliceAt, Instr.slice, run_underlying hu, hr]
  · rename_i e q full es he
    obtain ⟨rfl, heo⟩ := desc_slice k he
    obtain ⟨i2, d2, z2, k2⟩ := hL.known heo
    obtain ⟨a, cap, rfl, hcap, hbig, hfull⟩ := hx.sl_len
    obtain ⟨l, hh, m, ⟨⟨h1, h2, h3⟩, hst, h4⟩, hm1, hh1, hr⟩ := bounds_run (P := P) (w := w) (isSlice := true) (len := es.length) (cap := cap) (dm := es.length) (Q := fun l h m => (l ≤ h ∧ h ≤ m ∧ m ≤ es.length) ∧ (l = 0 ∨ ∀ y ∈ es, y.length = (L e).sz) ∧ T (.sl q (slFull mx full h m es.length) ((es.take h).drop l))) hlo hhi hmx hmh h
      (fun l h m q => ⟨q.1.1, fun _ => by omega, fun _ => by omega⟩)
    have hlen : ((es.take hh).drop l).length = hh - l := by simp; omega
    have hrun : (Instr.sliceAt t (.slice a es.length cap) vlo vhi vmx).run P w = .ok (.slice (if (if mx.isSome then m else cap) = l then a else a.map (·.add (l * (L e).sz))) (hh - l) ((if mx.isSome then m else cap) - l)) w := by
      simp [Instr.sliceAt, Instr.slice, run_underlying hu, hr, run_sizeOf' k2]
    refine Runs.pure hw hs hrun ?_ ⟨h4, rfl⟩
    have hfc : slFull mx full hh m es.length = true → (if mx.isSome then m else cap) - l = hh - l := by
      intro hf
      cases mx with
      | none =>
        simp only [slFull, Bool.and_eq_true, decide_eq_true_eq] at hf
        have := hfull hf.1
        simp only [Option.isSome_none, Bool.false_eq_true, if_false]
        omega
      | some _ =>
        simp only [slFull, decide_eq_true_eq] at hf
        simp only [Option.isSome_some, if_true]
        omega
    by_cases hne : (es.take hh).drop l = []
    · rw [hne]
      have h0 : hh - l = 0 := by rw [← hlen, hne]; rfl
      rw [h0]
      exact .slnil fun hf => by rw [hfc hf, h0]
    · have hlt : l < hh := by
        rcases Nat.lt_or_ge l hh with h | h
        · exact h
        · exfalso; apply hne; apply List.eq_nil_of_length_eq_zero; omega
      have hes : es ≠ [] := by rintro rfl; simp at hne
      obtain ⟨b, off, cap', c, e', fr, esz, hv, hc', _, hq, hF, hfit, hle, hj⟩ := hx.sl_at hes
      simp only [Value.slice.injEq] at hv
      obtain ⟨rfl, _, rfl⟩ := hv
      have hcl : (if mx.isSome then m else cap) ≠ l := by
        cases mx <;> simp <;> omega
      rw [if_neg hcl]
      have hee : l * (L e).sz = l * esz := by
        rcases hst with rfl | hst
        · simp
        · obtain ⟨y, ys, rfl⟩ := List.exists_cons_of_ne_nil hes
          have a1 := hst y (by simp)
          have a2 := hle 0 y rfl
          rw [← a1, a2]
      simp only [Option.map_some, addr_lit, hee]
      have hroom : hh * esz ≤ es.length * esz := Nat.mul_le_mul_right _ (by omega)
      have hs1 : (hh - l) * esz = hh * esz - l * esz := Nat.sub_mul _ _ _
      have hs2 : l * esz ≤ hh * esz := Nat.mul_le_mul_right _ (by omega)
      have hrep := Rep.sl (G := G) (o := true) (q := q) (full := slFull mx full hh m es.length) (l := (es.take hh).drop l) (cap := (if mx.isSome then m else cap) - l) (b := b) (off := off + l * esz) (c := c) (e := e') (fr := fr) (esz := esz)
        (by rw [hlen]; cases mx <;> simp <;> omega) (fun hf => by rw [hlen]; exact hfc hf) (by rw [hlen]; omega) hq hF (by rw [hlen]; omega)
        (fun i x hx => hle _ x (take_drop_get _ _ _ _ _ hx).1) (fun i j x y hx hy => (hj _ j x y (take_drop_get _ _ _ _ _ hx).1 hy).1) (fun i j x y hx hy => by
          have := (hj _ j x y (take_drop_get _ _ _ _ _ hx).1 hy).2
          rwa [Nat.add_mul, ← Nat.add_assoc] at this)
      rwa [hlen] at hrep
  · rename_i e id g off len he
    obtain ⟨rfl, heo⟩ := desc_slice k he
    obtain ⟨i2, d2, z2, k2⟩ := hL.known heo
    obtain ⟨hm, ⟨g', l0, hget, rfl⟩, h⟩ := h
    have hmn : mx = none := by cases mx <;> simp at hm; rfl
    subst hmn
    cases vmx with
    | some _ => exact hmx.elim
    | none =>
      obtain ⟨ob, cap, esz, a, rfl, hM, hcap, hbig, hcn, ha, ha0⟩ := Rep.osl_inv' hx
      obtain ⟨ob', cap', hM', _⟩ := hs.obj _ _ _ hget
      rw [hM] at hM'
      simp only [Option.some.injEq, Hd.mk.injEq] at hM'
      obtain ⟨rfl, rfl, rfl⟩ := hM'
      obtain ⟨l, hh, m, ⟨⟨h1, h2⟩, h3⟩, _, _, hr⟩ := bounds_run (P := P) (w := w) (isSlice := true) (len := len) (cap := cap - off) (dm := len) (mx := none) (vmx := none) (Q := fun l h _ => (l ≤ h ∧ h ≤ len) ∧ T (.osl id g' (off + l) (h - l))) hlo hhi trivial (fun h => by cases h) (by simpa [intArg] using h)
        (fun l h m q => ⟨q.1.1, fun _ => by omega, fun h => by cases h⟩)
      simp only [Option.isSome_none, Bool.false_eq_true, if_false] at hr
      refine Runs.pure hw hs (v := .slice (if cap - off = l then a else a.map (·.add (l * (L e).sz))) (hh - l) (cap - off - l)) ?_ ?_ ⟨h3, rfl⟩
      · simp [Instr.sliceAt, Instr.slice, run_underlying hu, hr, run_sizeOf' k2]
      · have hc : cap - off - l = cap - (off + l) := by omega
        rw [hc]
        refine .osl hM (by omega) (by omega) hcn (fun b hb hlt => ?_) (fun b hb h0 => ?_)
        · rw [if_neg (by omega), ha b hb (by omega)]
          simp only [Option.map_some, addr_lit, Nat.add_mul]
        · have e1 : off = 0 := by omega
          have e2 : l = 0 := by omega
          subst e1 e2
          rw [ha0 b hb rfl]
          split
          · rfl
          · simp [addr_lit]
  · exact h.elim
end Go.Rad
/- Maps whose keys are texts: what the machine does where the reduction's conditions hold. -/
namespace Go.Rad
open Go Go.MapKept
variable {P : Program} {L : Lay}

/-- Entries of the machine's map and the logic's, one by one. -/
def EntsRepK {κ : Type} (kv : κ → Value) (G : Gh) : List (κ × AVal) → List MapEntry → Prop
  | [], [] => True
  | x :: xs, m :: ms => m.key = kv x.1 ∧ x.2.isCell = true ∧ Rep G false x.2 m.val ∧ EntsRepK kv G xs ms
  | _, _ => False
abbrev EntsRep (G : Gh) : List (ByteArray × AVal) → List MapEntry → Prop := EntsRepK Value.string G
abbrev EntsRepI (G : Gh) : List (Int × AVal) → List MapEntry → Prop := EntsRepK (Value.int .i64) G
section
variable {κ : Type} {kv : κ → Value}

theorem ents_of {G : Gh} : ∀ (es : List (κ × AVal)) (ms : List MapEntry), ms.length = es.length →
    (∀ (j : Nat) (x : κ × AVal), es[j]? = some x → ∃ m : MapEntry, ms[j]? = some m ∧ m.key = kv x.1 ∧ x.2.isCell = true ∧ Rep G false x.2 m.val) → EntsRepK kv G es ms
  | [], [], _, _ => trivial
  | [], _ :: _, h, _ => by simp at h
  | _ :: _, [], h, _ => by simp at h
  | x :: xs, m :: ms, h, hj => by
    obtain ⟨m', h1, h2, h3, h4⟩ := hj 0 x rfl
    simp only [List.getElem?_cons_zero, Option.some.injEq] at h1
    subst h1
    exact ⟨h2, h3, h4, ents_of xs ms (by simpa using h) fun j y hy => by simpa using hj (j + 1) y (by simpa using hy)⟩

theorem ents_len {G : Gh} : ∀ {es : List (κ × AVal)} {ms : List MapEntry}, EntsRepK kv G es ms → ms.length = es.length
  | [], [], _ => rfl
  | [], _ :: _, h => by simp [EntsRepK] at h
  | _ :: _, [], h => by simp [EntsRepK] at h
  | _ :: _, _ :: _, h => by simp [ents_len h.2.2.2]

theorem ents_get {G : Gh} : ∀ {es : List (κ × AVal)} {ms : List MapEntry}, EntsRepK kv G es ms →
    ∀ (j : Nat) (x : κ × AVal), es[j]? = some x → ∃ m : MapEntry, ms[j]? = some m ∧ m.key = kv x.1 ∧ x.2.isCell = true ∧ Rep G false x.2 m.val
  | [], [], _, j, x, hx => by simp at hx
  | [], _ :: _, h, _, _, _ => by simp [EntsRepK] at h
  | _ :: _, [], h, _, _, _ => by simp [EntsRepK] at h
  | _ :: _, m :: _, h, 0, x, hx => by simp at hx; subst hx; exact ⟨m, rfl, h.1, h.2.1, h.2.2.1⟩
  | _ :: _, _ :: _, h, j + 1, x, hx => by simpa using ents_get h.2.2.2 j x (by simpa using hx)

end
theorem bytes_beq (a b : ByteArray) : (a == b) = decide (a = b) := by rw [beq_toListBytes, eqBytes]

/-- Where a key stands. -/
theorem find_entsK {κ : Type} [DecidableEq κ] {kv : κ → Value} {d : TypeDesc} (hsm : ∀ a b, Instr.sameNow d (kv a) (kv b) = some (decide (a = b))) {G : Gh} (key : κ) : ∀ (es : List (κ × AVal)) (ms : List MapEntry) (i : Nat), EntsRepK kv G es ms →
    (mfind es key = none ∧ Instr.findNow d (kv key) ms i = some none ∧ (∀ v, mput es key v = es ++ [(key, v)]) ∧ mdel es key = es) ∨
    ∃ j m v, Instr.findNow d (kv key) ms i = some (some (i + j, m.val)) ∧ ms[j]? = some m ∧ m.key = kv key ∧ mfind es key = some v ∧ Rep G false v m.val ∧ v.isCell = true ∧
      (∀ v', mput es key v' = es.set j (key, v')) ∧ mdel es key = es.eraseIdx j ∧ j < es.length
  | [], [], i, _ => .inl ⟨rfl, rfl, fun _ => rfl, rfl⟩
  | [], _ :: _, _, h => by simp [EntsRepK] at h
  | _ :: _, [], _, h => by simp [EntsRepK] at h
  | x :: xs, m :: ms, i, h => by
    obtain ⟨h1, h2, h3, h4⟩ := h
    by_cases hk : x.1 = key
    · subst hk
      right
      refine ⟨0, m, x.2, ?_, rfl, h1, by simp [mfind], h3, h2, fun v' => by simp [mput], by simp [mdel], by simp⟩
      simp [Instr.findNow, h1, hsm]
    · have hne : ¬ (key = x.1) := fun e => hk e.symm
      rcases find_entsK hsm key xs ms (i + 1) h4 with ⟨a, b, c, d⟩ | ⟨j, m', v, a, b, c, d, e, f, g, g2, g3⟩
      · left
        refine ⟨by simpa [mfind, hk] using a, ?_, fun v => by simp [mput, hk, c], by simp [mdel, hk, d]⟩
        simp [Instr.findNow, h1, hne, b, hsm]
      · right
        refine ⟨j + 1, m', v, ?_, by simpa using b, c, by simpa [mfind, hk] using d, e, f, fun v' => by simp [mput, hk, g], by simp [mdel, hk, g2], by simpa using g3⟩
        simp only [Instr.findNow, h1, hsm, decide_eq_false hne]
        rw [a]
        simp; omega

theorem same_str (a b : ByteArray) : Instr.sameNow .string (.string a) (.string b) = some (decide (a = b)) := by simp [Instr.sameNow, bytes_beq]
theorem same_int (a b : Int) : Instr.sameNow (.int .i64) (.int .i64 a) (.int .i64 b) = some (decide (a = b)) := by
  simp only [Instr.sameNow, if_true]
  by_cases h : a = b
  · subst h; simp
  · rw [decide_eq_false h]; simp [h]
theorem map_obj {G : Gh} {w : World} {sto : Sto} {id g : Nat} {es : List (ByteArray × AVal)} (hs : StoOk G w sto) (hget : sget sto id = some (g, .mp es)) {b cap e' : Nat} (hM : G.M id g = some ⟨some b, cap, e'⟩) :
    G.F b = none ∧ ∃ me clock, w.heap[b]? = some (.map me clock) ∧ es.length ≤ bigLen ∧ EntsRep G es me.toList := by
  obtain ⟨h1, me, cl, h2, h3, h4, h5⟩ := map_at (hs.obj _ _ _ hget) hM
  exact ⟨h1, me, cl, h2, h4, ents_of es me.toList (by simpa using h3) fun j x hx => by
    obtain ⟨m, a, b⟩ := h5 j x hx
    exact ⟨m, by simpa using a, b⟩⟩

theorem map_objOk {G : Gh} {w : World} {id g b cap esz : Nat} {es : List (ByteArray × AVal)} {me : Array MapEntry} {cl : Nat} (hM : G.M id g = some ⟨some b, cap, esz⟩) (hF : G.F b = none) (hb : w.heap[b]? = some (.map me cl))
    (hbig : es.length ≤ bigLen) (h : EntsRep G es me.toList) : ObjOk G w id g (.mp es) :=
  ⟨b, cap, esz, hM, hF, me, cl, hb, by simpa using ents_len h, hbig, fun j x hx => by
    obtain ⟨m, a, b⟩ := ents_get h j x hx
    exact ⟨m, by simpa using a, b⟩⟩

theorem map_objI {G : Gh} {w : World} {sto : Sto} {id g : Nat} {es : List (Int × AVal)} (hs : StoOk G w sto) (hget : sget sto id = some (g, .mpi es)) {b cap e' : Nat} (hM : G.M id g = some ⟨some b, cap, e'⟩) :
    G.F b = none ∧ ∃ me clock, w.heap[b]? = some (.map me clock) ∧ es.length ≤ bigLen ∧ EntsRepI G es me.toList := by
  obtain ⟨h1, me, cl, h2, h3, h4, h5⟩ := map_atI (hs.obj _ _ _ hget) hM
  exact ⟨h1, me, cl, h2, h4, ents_of es me.toList (by simpa using h3) fun j x hx => by
    obtain ⟨m, a, b⟩ := h5 j x hx
    exact ⟨m, by simpa using a, b⟩⟩

theorem map_objOkI {G : Gh} {w : World} {id g b cap esz : Nat} {es : List (Int × AVal)} {me : Array MapEntry} {cl : Nat} (hM : G.M id g = some ⟨some b, cap, esz⟩) (hF : G.F b = none) (hb : w.heap[b]? = some (.map me cl))
    (hbig : es.length ≤ bigLen) (h : EntsRepI G es me.toList) : ObjOk G w id g (.mpi es) :=
  ⟨b, cap, esz, hM, hF, me, cl, hb, by simpa using ents_len h, hbig, fun j x hx => by
    obtain ⟨m, a, b⟩ := ents_get h j x hx
    exact ⟨m, by simpa using a, b⟩⟩

theorem elem_zero {e : Nat} {i2 : TypeInfo} {d2 : TypeDesc} {z2 : Value} (k2 : Known P L e i2 d2 z2) (hag : (L e).ag = false) (G : Gh) (w : World) :
    (zeroValue e).run P w = .ok z2 w ∧ Rep G true ((L e).zero.headD .undef) z2 := by
  refine ⟨by simp [zeroValue, typeInfo, k2.info, k2.zero], ?_⟩
  have h := k2.one
  rw [hag] at h
  simp only [Bool.false_eq_true, false_or] at h
  unfold oneIs at h
  split at h
  · rename_i x hx
    rw [hx]
    exact (zeroIs_rep (G := G) h).2.2.up
  · cases h

theorem lookup_sound (hL : LOk P L) {t : Nat} {ok : Bool} (ht : (L t).ty ≠ .other) {m k : AVal} {v u : Value} {G : Gh} {w : World} {sto : Sto} {T : AVal → Prop} (hw : WOk G w) (hs : StoOk G w sto) (hm : Rep G true m v) (hk : Rep G true k u)
    (h : vcLookup L t m k ok sto T) : Runs P (Instr.lookup t v u ok) G w fun r s => T r ∧ s = sto := by
  obtain ⟨i, d, z, kn⟩ := hL.known ht
  unfold vcLookup at h
  split at h
  · rename_i kt et he
    obtain ⟨rfl, hko, heo⟩ := desc_map kn he
    obtain ⟨i1, d1, z1, k1⟩ := hL.known hko
    obtain ⟨i2, d2, z2, k2⟩ := hL.known heo
    split at h
    · rename_i id g key
      obtain ⟨hstr, _, hag, h⟩ := h
      have := desc_string k1 hstr
      subst this
      obtain ⟨b, cap, esz, hM, rfl⟩ := Rep.map_inv' hm
      obtain ⟨rfl, _⟩ := Rep.str_inv' hk
      split at h
      case h_2 => exact h.elim
      rename_i g' es hget
      obtain ⟨rfl, hT⟩ := h
      obtain ⟨_, me, cl, hb, hbig, hents⟩ := map_obj hs hget hM
      obtain ⟨hz1, hz2⟩ := elem_zero k2 hag G w
      have hck := fun e => run_checkKey (P := P) (w := w) k1.und (k := .string key) trivial e 9999
      rcases find_entsK same_str key es me.toList 0 hents with ⟨a, b', _⟩ | ⟨j, mm, vv, a, _, _, hf, hr, _⟩
      · rw [a] at hT
        have hfk := run_findKey (P := P) (w := w) (l := me.toList) k1.und b'
        refine Runs.pure hw hs (v := if ok then .tuple #[z2, .bool false] else z2) (r := if ok then .tup [(L et).zero.headD .undef, .bool false] else (L et).zero.headD .undef) ?_ ?_ ⟨hT, rfl⟩
        · simp only [Instr.lookup, Sem.run_bind, run_underlying kn.und, Result.andThen_ok, run_getObj_map hb, Sem.run_pure, hck, hfk, hz1]
        · cases ok
          · exact hz2
          · refine .tup rfl fun j x hx => ?_
            match j, hx with
            | 0, hx => simp only [List.getElem?_cons_zero, Option.some.injEq] at hx; subst hx; exact hz2
            | 1, hx => simp at hx; subst hx; exact .bool
      · rw [hf] at hT
        have hfk := run_findKey (P := P) (w := w) (l := me.toList) k1.und a
        refine Runs.pure hw hs (v := if ok then .tuple #[mm.val, .bool true] else mm.val) (r := if ok then .tup [vv, .bool true] else vv) ?_ ?_ ⟨hT, rfl⟩
        · simp only [Instr.lookup, Sem.run_bind, run_underlying kn.und, Result.andThen_ok, run_getObj_map hb, Sem.run_pure, hck, hfk]
        · cases ok
          · exact hr.up
          · refine .tup rfl fun j x hx => ?_
            match j, hx with
            | 0, hx => simp at hx; subst hx; exact hr.up
            | 1, hx => simp at hx; subst hx; exact .bool
    · rename_i id g key
      obtain ⟨hstr, _, hag, h⟩ := h
      have := desc_int k1 hstr
      subst this
      obtain ⟨b, cap, esz, hM, rfl⟩ := Rep.map_inv' hm
      obtain ⟨rfl, _⟩ := Rep.int_inv' hk
      split at h
      case h_2 => exact h.elim
      rename_i g' es hget
      obtain ⟨rfl, hT⟩ := h
      obtain ⟨_, me, cl, hb, hbig, hents⟩ := map_objI hs hget hM
      obtain ⟨hz1, hz2⟩ := elem_zero k2 hag G w
      have hck := fun e => run_checkKey (P := P) (w := w) k1.und (k := .int .i64 key) (by simp [IsKey]) e 9999
      rcases find_entsK same_int key es me.toList 0 hents with ⟨a, b', _⟩ | ⟨j, mm, vv, a, _, _, hf, hr, _⟩
      · rw [a] at hT
        have hfk := run_findKey (P := P) (w := w) (l := me.toList) k1.und b'
        refine Runs.pure hw hs (v := if ok then .tuple #[z2, .bool false] else z2) (r := if ok then .tup [(L et).zero.headD .undef, .bool false] else (L et).zero.headD .undef) ?_ ?_ ⟨hT, rfl⟩
        · simp only [Instr.lookup, Sem.run_bind, run_underlying kn.und, Result.andThen_ok, run_getObj_map hb, Sem.run_pure, hck, hfk, hz1]
        · cases ok
          · exact hz2
          · refine .tup rfl fun j x hx => ?_
            match j, hx with
            | 0, hx => simp only [List.getElem?_cons_zero, Option.some.injEq] at hx; subst hx; exact hz2
            | 1, hx => simp at hx; subst hx; exact .bool
      · rw [hf] at hT
        have hfk := run_findKey (P := P) (w := w) (l := me.toList) k1.und a
        refine Runs.pure hw hs (v := if ok then .tuple #[mm.val, .bool true] else mm.val) (r := if ok then .tup [vv, .bool true] else vv) ?_ ?_ ⟨hT, rfl⟩
        · simp only [Instr.lookup, Sem.run_bind, run_underlying kn.und, Result.andThen_ok, run_getObj_map hb, Sem.run_pure, hck, hfk]
        · cases ok
          · exact hr.up
          · refine .tup rfl fun j x hx => ?_
            match j, hx with
            | 0, hx => simp at hx; subst hx; exact hr.up
            | 1, hx => simp at hx; subst hx; exact .bool
    · exact h.elim
  · exact h.elim

section
variable {κ : Type} {kv : κ → Value}
theorem ents_append {G : Gh} : ∀ {es : List (κ × AVal)} {ms : List MapEntry} {x : κ × AVal} {m : MapEntry}, EntsRepK kv G es ms → m.key = kv x.1 → x.2.isCell = true → Rep G false x.2 m.val → EntsRepK kv G (es ++ [x]) (ms ++ [m])
  | [], [], _, _, _, a, b, c => ⟨a, b, c, trivial⟩
  | [], _ :: _, _, _, h, _, _, _ => by simp [EntsRepK] at h
  | _ :: _, [], _, _, h, _, _, _ => by simp [EntsRepK] at h
  | _ :: _, _ :: _, _, _, h, a, b, c => ⟨h.1, h.2.1, h.2.2.1, ents_append h.2.2.2 a b c⟩

theorem ents_set {G : Gh} : ∀ {es : List (κ × AVal)} {ms : List MapEntry} {x : κ × AVal} {m : MapEntry} (j : Nat), EntsRepK kv G es ms → m.key = kv x.1 → x.2.isCell = true → Rep G false x.2 m.val → EntsRepK kv G (es.set j x) (ms.set j m)
  | [], [], _, _, _, _, _, _, _ => trivial
  | [], _ :: _, _, _, _, h, _, _, _ => by simp [EntsRepK] at h
  | _ :: _, [], _, _, _, h, _, _, _ => by simp [EntsRepK] at h
  | _ :: _, _ :: _, _, _, 0, h, a, b, c => ⟨a, b, c, h.2.2.2⟩
  | _ :: _, _ :: _, _, _, j + 1, h, a, b, c => ⟨h.1, h.2.1, h.2.2.1, ents_set j h.2.2.2 a b c⟩

theorem ents_erase {G : Gh} : ∀ {es : List (κ × AVal)} {ms : List MapEntry} (j : Nat), EntsRepK kv G es ms → EntsRepK kv G (es.eraseIdx j) (ms.eraseIdx j)
  | [], [], _, _ => trivial
  | [], _ :: _, _, h => by simp [EntsRepK] at h
  | _ :: _, [], _, h => by simp [EntsRepK] at h
  | _ :: _, _ :: _, 0, h => h.2.2.2
  | _ :: _, _ :: _, j + 1, h => ⟨h.1, h.2.1, h.2.2.1, ents_erase j h.2.2.2⟩

end
theorem setObj_world {G : Gh} {w : World} {sto : Sto} {id g b cap esz : Nat} {es es' : List (ByteArray × AVal)} {me' : Array MapEntry} {cl' : Nat} {o : Obj} (hw : WOk G w) (hs : StoOk G w sto) (hget : sget sto id = some (g, .mp es)) (hM : G.M id g = some ⟨some b, cap, esz⟩)
    (hb : w.heap[b]? = some o) (hbig : es'.length ≤ bigLen) (h : EntsRep G es' me'.toList) :
    WOk G { w with heap := w.heap.setIfInBounds b (.map me' cl') } ∧ StoOk G { w with heap := w.heap.setIfInBounds b (.map me' cl') } (sput sto id (g, .mp es')) := by
  obtain ⟨h1, h2⟩ := heap_set (w := w) (o' := .map me' cl') hb
  have hbk : blkOf G id g = some b := by simp [blkOf, hM]
  have hF := ((hs.obj _ _ _ hget).blk hw b hbk).1
  exact sto_write (Kept.setMap _ _ _ _) hw hs hget (by simp) (fun b' _ hne => h2 b' fun e => hne (by rw [hbk, e])) (map_objOk hM hF h1 hbig h)

theorem setObj_worldI {G : Gh} {w : World} {sto : Sto} {id g b cap esz : Nat} {es es' : List (Int × AVal)} {me' : Array MapEntry} {cl' : Nat} {o : Obj} (hw : WOk G w) (hs : StoOk G w sto) (hget : sget sto id = some (g, .mpi es)) (hM : G.M id g = some ⟨some b, cap, esz⟩)
    (hb : w.heap[b]? = some o) (hbig : es'.length ≤ bigLen) (h : EntsRepI G es' me'.toList) :
    WOk G { w with heap := w.heap.setIfInBounds b (.map me' cl') } ∧ StoOk G { w with heap := w.heap.setIfInBounds b (.map me' cl') } (sput sto id (g, .mpi es')) := by
  obtain ⟨h1, h2⟩ := heap_set (w := w) (o' := .map me' cl') hb
  have hbk : blkOf G id g = some b := by simp [blkOf, hM]
  have hF := ((hs.obj _ _ _ hget).blk hw b hbk).1
  exact sto_write (Kept.setMap _ _ _ _) hw hs hget (by simp) (fun b' _ hne => h2 b' fun e => hne (by rw [hbk, e])) (map_objOkI hM hF h1 hbig h)

theorem mapUpdate_sound (hL : LOk P L) {t : Nat} (ht : (L t).ty ≠ .other) {m k x : AVal} {v u y : Value} {G : Gh} {w : World} {sto : Sto} {T : Sto → Prop} (hw : WOk G w) (hs : StoOk G w sto) (hm : Rep G true m v) (hk : Rep G true k u) (hx : Rep G true x y)
    (h : vcMapUpdate L t m k x sto T) : RunsU P (Instr.mapUpdate t v u y) G w T := by
  obtain ⟨i, d, z, kn⟩ := hL.known ht
  unfold vcMapUpdate at h
  split at h
  · rename_i kt et he
    obtain ⟨rfl, hko, heo⟩ := desc_map kn he
    obtain ⟨i1, d1, z1, k1⟩ := hL.known hko
    split at h
    · rename_i id g key
      obtain ⟨hstr, _, hag, hfz, h⟩ := h
      have := desc_string k1 hstr
      subst this
      obtain ⟨b, cap, esz, hM, rfl⟩ := Rep.map_inv' hm
      obtain ⟨rfl, _⟩ := Rep.str_inv' hk
      split at h
      case h_2 => exact h.elim
      rename_i g' es hget
      obtain ⟨rfl, hroom, hT⟩ := h
      obtain ⟨_, me, cl, hb, hbig, hents⟩ := map_obj hs hget hM
      have hck := fun e => run_checkKey (P := P) (w := w) k1.und (k := .string key) trivial e 9999
      have hcell : x.isCell = true := by cases x <;> first | rfl | simp [AVal.isFz] at hfz
      have hxr := hx.down hfz
      rcases find_entsK same_str key es me.toList 0 hents with ⟨a, b', c, _⟩ | ⟨j, mm, vv, a, hj, hkey, _, _, _, hset, _, hlt⟩
      · have hfk := run_findKey (P := P) (w := w) (l := me.toList) k1.und b'
        obtain ⟨h1, h2⟩ := setObj_world (me' := me.push { key := .string key, val := y, born := cl }) (cl' := cl + 1) (es' := mput es key x) hw hs hget hM hb (by rw [c]; simpa using hroom)
          (by rw [c, Array.toList_push]; exact ents_append hents rfl hcell hxr)
        refine ⟨_, _, ?_, h1, h2, hT⟩
        simp only [Instr.mapUpdate, Sem.run_bind, run_underlying kn.und, Result.andThen_ok, run_getObj_map hb, hck, hfk, run_setObj_map _ hb]
      · have hfk := run_findKey (P := P) (w := w) (l := me.toList) k1.und a
        rw [Nat.zero_add] at hfk
        have hlt' : j < me.size := by have := ents_len hents; simp at this; omega
        have hmj : me[j]? = some mm := by simpa using hj
        obtain ⟨h1, h2⟩ := setObj_world (me' := me.modify j fun e => { e with key := .string key, val := y }) (cl' := cl) (es' := mput es key x) hw hs hget hM hb (by rw [hset]; simpa using hbig)
          (by
            rw [hset]
            have e1 : (me.modify j fun e => { e with key := .string key, val := y }).toList = me.toList.set j { mm with key := .string key, val := y } := by
              apply List.ext_getElem?
              intro n
              simp only [Array.getElem?_toList, Array.getElem?_modify, List.getElem?_set, Array.length_toList]
              by_cases hn : j = n
              · subst hn
                have hmm : me[j] = mm := by rw [Array.getElem?_eq_getElem hlt'] at hmj; exact Option.some.inj hmj
                simp [hlt', hmm]
              · simp [hn]
            rw [e1]
            exact ents_set j hents rfl hcell hxr)
        refine ⟨_, _, ?_, h1, h2, hT⟩
        have hks : (Instr.keyThatStays (.string key) (.string key)).run P w = .ok (.string key) w := by
          simp [Instr.keyThatStays, Instr.sameBits, bytes_beq]
        simp only [Instr.mapUpdate, Sem.run_bind, run_underlying kn.und, Result.andThen_ok, run_getObj_map hb, hck, hfk, hmj, Option.map_some, Option.getD_some, hkey, hks, run_setObj_map _ hb]
    · rename_i id g key
      obtain ⟨hstr, _, hag, hfz, h⟩ := h
      have := desc_int k1 hstr
      subst this
      obtain ⟨b, cap, esz, hM, rfl⟩ := Rep.map_inv' hm
      obtain ⟨rfl, _⟩ := Rep.int_inv' hk
      split at h
      case h_2 => exact h.elim
      rename_i g' es hget
      obtain ⟨rfl, hroom, hT⟩ := h
      obtain ⟨_, me, cl, hb, hbig, hents⟩ := map_objI hs hget hM
      have hck := fun e => run_checkKey (P := P) (w := w) k1.und (k := .int .i64 key) (by simp [IsKey]) e 9999
      have hcell : x.isCell = true := by cases x <;> first | rfl | simp [AVal.isFz] at hfz
      have hxr := hx.down hfz
      rcases find_entsK same_int key es me.toList 0 hents with ⟨a, b', c, _⟩ | ⟨j, mm, vv, a, hj, hkey, _, _, _, hset, _, hlt⟩
      · have hfk := run_findKey (P := P) (w := w) (l := me.toList) k1.und b'
        obtain ⟨h1, h2⟩ := setObj_worldI (me' := me.push { key := .int .i64 key, val := y, born := cl }) (cl' := cl + 1) (es' := mput es key x) hw hs hget hM hb (by rw [c]; simpa using hroom)
          (by rw [c, Array.toList_push]; exact ents_append hents rfl hcell hxr)
        refine ⟨_, _, ?_, h1, h2, hT⟩
        simp only [Instr.mapUpdate, Sem.run_bind, run_underlying kn.und, Result.andThen_ok, run_getObj_map hb, hck, hfk, run_setObj_map _ hb]
      · have hfk := run_findKey (P := P) (w := w) (l := me.toList) k1.und a
        rw [Nat.zero_add] at hfk
        have hlt' : j < me.size := by have := ents_len hents; simp at this; omega
        have hmj : me[j]? = some mm := by simpa using hj
        obtain ⟨h1, h2⟩ := setObj_worldI (me' := me.modify j fun e => { e with key := .int .i64 key, val := y }) (cl' := cl) (es' := mput es key x) hw hs hget hM hb (by rw [hset]; simpa using hbig)
          (by
            rw [hset]
            have e1 : (me.modify j fun e => { e with key := .int .i64 key, val := y }).toList = me.toList.set j { mm with key := .int .i64 key, val := y } := by
              apply List.ext_getElem?
              intro n
              simp only [Array.getElem?_toList, Array.getElem?_modify, List.getElem?_set, Array.length_toList]
              by_cases hn : j = n
              · subst hn
                have hmm : me[j] = mm := by rw [Array.getElem?_eq_getElem hlt'] at hmj; exact Option.some.inj hmj
                simp [hlt', hmm]
              · simp [hn]
            rw [e1]
            exact ents_set j hents rfl hcell hxr)
        refine ⟨_, _, ?_, h1, h2, hT⟩
        have hks : (Instr.keyThatStays (.int .i64 key) (.int .i64 key)).run P w = .ok (.int .i64 key) w := by
          simp [Instr.keyThatStays, Instr.sameBits]
        simp only [Instr.mapUpdate, Sem.run_bind, run_underlying kn.und, Result.andThen_ok, run_getObj_map hb, hck, hfk, hmj, Option.map_some, Option.getD_some, hkey, hks, run_setObj_map _ hb]
    · exact h.elim
  · exact h.elim

theorem delete_sound (hL : LOk P L) {t t2 ty : Nat} (ht : (L t).ty ≠ .other) {v u : Value} {id g : Nat} {key : ByteArray} {es : List (ByteArray × AVal)} {G : Gh} {w : World} {sto : Sto} (hw : WOk G w) (hs : StoOk G w sto) (hm : Rep G true (.map id g) v) (hk : Rep G true (.str key) u)
    {kt et : Nat} (he : (L t).ty = .map kt et) (hstr : (L kt).ty = .string) (hget : sget sto id = some (g, .mp es)) :
    ∃ w', (Builtin.delete_ #[t, t2] ty #[v, u]).run P w = .ok (.tuple #[]) w' ∧ WOk G w' ∧ StoOk G w' (sput sto id (g, .mp (mdel es key))) := by
  obtain ⟨i, d, z, kn⟩ := hL.known ht
  obtain ⟨rfl, hko, heo⟩ := desc_map kn he
  obtain ⟨i1, d1, z1, k1⟩ := hL.known hko
  have := desc_string k1 hstr
  subst this
  obtain ⟨b, cap, esz, hM, rfl⟩ := Rep.map_inv' hm
  obtain ⟨rfl, _⟩ := Rep.str_inv' hk
  obtain ⟨_, me, cl, hb, hbig, hents⟩ := map_obj hs hget hM
  have hck := fun e => run_checkKey (P := P) (w := w) k1.und (k := .string key) trivial e 9999
  rcases find_entsK same_str key es me.toList 0 hents with ⟨a, b', _, c⟩ | ⟨j, mm, vv, a, hj, hkey, _, _, _, _, hdel, hlt⟩
  · have hfk := run_findKey (P := P) (w := w) (l := me.toList) k1.und b'
    obtain ⟨h1, h2⟩ := setObj_world (me' := me) (cl' := cl) (es' := mdel es key) hw hs hget hM hb (by rw [c]; exact hbig) (by rw [c]; exact hents)
    refine ⟨_, ?_, h1, h2⟩
    simp [Builtin.delete_, run_underlying kn.und, run_getObj_map hb, hck, hfk, run_setObj_map _ hb, Result.andThen]
  · have hfk := run_findKey (P := P) (w := w) (l := me.toList) k1.und a
    rw [Nat.zero_add] at hfk
    obtain ⟨h1, h2⟩ := setObj_world (me' := me.eraseIdxIfInBounds j) (cl' := cl) (es' := mdel es key) hw hs hget hM hb (by rw [hdel, List.length_eraseIdx]; split <;> omega)
      (by
        rw [hdel]
        have e1 : (me.eraseIdxIfInBounds j).toList = me.toList.eraseIdx j := by simp
        rw [e1]; exact ents_erase j hents)
    refine ⟨_, ?_, h1, h2⟩
    simp [Builtin.delete_, run_underlying kn.und, run_getObj_map hb, hck, hfk, run_setObj_map _ hb, Result.andThen]

theorem makeMap_sound {t d : Nat} {G : Gh} {w : World} {sto : Sto} {T : AVal → Sto → Prop} (hw : WOk G w) (hs : StoOk G w sto) (h : ∀ h, T (.map d h) (sput sto d (h, .mp []))) : Runs P (Instr.makeMap t none) G w T := by
  obtain ⟨a, b, c⟩ := sto_put (w' := w.alloc (.map #[] 0)) (id := d) (o := .mp []) (hd := ⟨some w.heap.size, 0, 0⟩) (Kept.allocMap _ _ _) hw hs (by simp) (fun b hb _ => heap_alloc_old w _ b hb)
    (fun b hb => by simp only [Option.some.injEq] at hb; subst hb; exact ⟨by simp, .inl (Nat.le_refl _)⟩)
    (map_objOk (newG_M _ _ _) (show G.F w.heap.size = none from fresh_none hw) (heap_alloc_new w _) (by simp) trivial)
  exact ⟨_, _, _, _, _, by simp [Instr.makeMap], a, b, c, .map (newG_M _ _ _), h _⟩
end Go.Rad
/- The reduction of one operation is sound. -/
namespace Go.Rad
open Go
variable {P : Program} {L : Lay}

def constOk1 : Value → Bool
  | .int k n => decide (k.min ≤ n ∧ n ≤ k.max)
  | .string s => decide (s.size ≤ maxLen)
  | _ => true

def constOk : Value → Bool
  | .agg cs => cs.toList.all fun c => constOk1 c && (ofConst1 c).isCell
  | v => constOk1 v

def operandOk : Operand → Bool
  | .const v => constOk v
  | _ => true

theorem const1urep {G : Gh} {v : Value} (h : constOk1 v = true) : Rep G true (ofConst1 v) v := by
  unfold ofConst1
  split
  · exact .bool
  · simp only [constOk1, decide_eq_true_eq] at h; exact .int h
  · simp only [constOk1, decide_eq_true_eq] at h; exact .str h
  · exact .nil
  · exact .slnil fun _ => rfl
  · exact .nilmap
  · exact .nilfn
  · exact .undef

theorem const_rep {G : Gh} {v : Value} (h : constOk v = true) : Rep G true (ofConst v) v := by
  unfold ofConst
  split
  · rename_i cs
    simp only [constOk] at h
    have hall := List.all_eq_true.1 h
    have hg : ∀ (j : Nat) (x : AVal), (cs.toList.map ofConst1)[j]? = some x → x.isCell = true ∧ Rep G true x (cs.getD j undef) := by
      intro j x hx
      rw [List.getElem?_map] at hx
      cases hc : cs.toList[j]? with
      | none => rw [hc] at hx; cases hx
      | some c =>
        rw [hc] at hx
        simp only [Option.map_some, Option.some.injEq] at hx
        subst hx
        have := hall c (List.mem_of_getElem? hc)
        simp only [Bool.and_eq_true] at this
        have e : cs.getD j undef = c := by
          simp only [Array.getElem?_toList] at hc
          simp [hc]
        rw [e]
        exact ⟨this.2, const1urep this.1⟩
    exact .agg (by simp) (fun j x hx => (hg j x hx).1) (fun j x hx => (hg j x hx).2)
  · rename_i hne
    refine const1urep ?_
    unfold constOk at h
    split at h
    · exact absurd rfl (hne _)
    · exact h

theorem ev_rep {G : Gh} {w : World} {tm : Tm} {a : Act} (hw : WOk G w) (h : TmOk G tm a.tmps) {x : Operand} (hx : operandOk x = true) : Rep G true (ev tm x) (a.eval x) := by
  cases x with
  | tmp t => exact h t
  | const v => exact const_rep hx
  | global g =>
    simp only [ev]
    cases hg : globU8 g with
    | none => exact .undef
    | some l => exact hw.T g l hg
  | func f => exact .fn rfl fun j x hx => by simp at hx

def opOk (L : Lay) (o : Op) : Bool :=
  o.operands.all operandOk &&
  match o with
  | .alloc t | .box t _ | .build t _ | .load t _ | .store t _ _ | .convert _ t _ | .makeSlice t _ _ | .buildSlice t _ _ | .slice t _ _ _ _ | .fieldAddr t _ _ | .field t _ _ | .indexAddr t _ _ | .index t _ _
  | .lookup t _ _ _ | .mapUpdate t _ _ _ | .binOp _ t _ _ _ => (L t).ty != .other
  | .call ⟨.builtin _, _, ts⟩ => ts.toList.all fun t => (L t).ty != .other
  | _ => true

def OpRuns (P : Program) (o : Oper) (ρ : Operand → Value) (G : Gh) (w : World) (T : AVal → Sto → Prop) : Prop :=
  ∃ G' w' v r sto', ((execOp ρ o).run P w = .ok (.value v) w' ∨ (execOp ρ o).run P w = .ok .skip w' ∧ v = undef) ∧ Ext G G' ∧ WOk G' w' ∧ StoOk G' w' sto' ∧ Rep G' true r v ∧ T r sto'

theorem OpRuns.of {o : Oper} {ρ : Operand → Value} {s : Sem Value} {G : Gh} {w : World} {T : AVal → Sto → Prop} (he : execOp ρ o = (do pure (.value (← s)))) (h : Runs P s G w T) : OpRuns P o ρ G w T := by
  obtain ⟨G', w', v, r, sto', h1, h2⟩ := h
  exact ⟨G', w', v, r, sto', .inl (by rw [he]; simp [h1]), h2⟩

theorem OpRuns.ofU {o : Oper} {ρ : Operand → Value} {s : Sem Unit} {G : Gh} {w : World} {T : AVal → Sto → Prop} (he : execOp ρ o = (do s; pure .skip)) (h : RunsU P s G w fun sto => T .undef sto) : OpRuns P o ρ G w T := by
  obtain ⟨w', sto', h1, h2, h3, h4⟩ := h
  exact ⟨G, w', undef, .undef, sto', .inr ⟨by rw [he]; simp [h1], rfl⟩, .refl G, h2, h3, .undef, h4⟩

theorem Runs.same {s : Sem Value} {G : Gh} {w : World} {sto : Sto} {T : AVal → Sto → Prop} {T' : AVal → Prop} (h : Runs P s G w fun r s => T' r ∧ s = sto) (hT : ∀ r, T' r → T r sto) : Runs P s G w T := by
  obtain ⟨G', w', v, r, sto', h1, h2, h3, h4, h5, h6, rfl⟩ := h
  exact ⟨G', w', v, r, _, h1, h2, h3, h4, h5, hT r h6⟩

theorem parts_rep {G : Gh} {w : World} {tm : Tm} {a : Act} (hw : WOk G w) (h : TmOk G tm a.tmps) : ∀ (ps : List (Nat × Operand)), (∀ p ∈ ps, operandOk p.2 = true) →
    PartsRep G (ps.map fun p => (p.1, ev tm p.2)) (ps.map fun (i, x) => (i, a.eval x))
  | [], _ => trivial
  | p :: ps, hp => ⟨rfl, ev_rep hw h (hp p (by simp)), parts_rep hw h ps fun q hq => hp q (by simp [hq])⟩

theorem opt_rep {G : Gh} {w : World} {tm : Tm} {a : Act} (hw : WOk G w) (h : TmOk G tm a.tmps) {x : Option Operand} (hx : ∀ y, x = some y → operandOk y = true) : OptRep G (x.map (ev tm)) (x.map a.eval) := by
  cases x with
  | none => trivial
  | some y => exact ev_rep hw h (hx y rfl)

theorem zero_len (hL : LOk P L) {t e : Nat} (ht : (L t).ty ≠ .other) : (L t).ty = .slice e → (L e).zero.length = (L e).sz := by
  intro he
  obtain ⟨i, d, z, k⟩ := hL.known ht
  obtain ⟨_, heo⟩ := desc_slice k he
  obtain ⟨i2, d2, z2, k2⟩ := hL.known heo
  exact k2.zlen

theorem bin_sound (hL : LOk P L) {op : BinOp} {t : Nat} (ht : (L t).ty ≠ .other) {x y : AVal} {v u : Value} {x0 y0 : Operand} {T : AVal → Prop} {G : Gh} {w : World} {sto : Sto} (hw : WOk G w) (hs : StoOk G w sto) (hx : Rep G true x v) (hy : Rep G true y u)
    (h : vcBin L op t x y T) : Runs P (do eqGuard op t x0 y0 v u; binOp op t v u) G w fun r s => T r ∧ s = sto := by
  have gen : (eqGuard op t x0 y0 v u).run P w = .ok () w → Runs P (binOp op t v u) G w (fun r s => T r ∧ s = sto) → Runs P (do eqGuard op t x0 y0 v u; binOp op t v u) G w fun r s => T r ∧ s = sto := by
    intro h1 h2
    obtain ⟨G', w', v', r, sto', a1, a2⟩ := h2
    exact ⟨G', w', v', r, sto', by simp [h1, a1], a2⟩
  unfold vcBin at h
  split at h
  · rename_i k a k' b
    obtain ⟨rfl, ha⟩ := Rep.int_inv' hx
    obtain ⟨rfl, _⟩ := Rep.int_inv' hy
    exact gen (by simp [eqGuard]) (shift_sound hw hs (.inl rfl) ha h)
  · rename_i k a k' b
    obtain ⟨rfl, ha⟩ := Rep.int_inv' hx
    obtain ⟨rfl, _⟩ := Rep.int_inv' hy
    exact gen (by simp [eqGuard]) (shift_sound hw hs (.inr rfl) ha h)
  · rename_i k a k' b hn1 hn2
    obtain ⟨rfl, ha⟩ := Rep.int_inv' hx
    obtain ⟨rfl, _⟩ := Rep.int_inv' hy
    obtain ⟨rfl, h⟩ := h
    exact gen (by cases op <;> simp [eqGuard]) (int_sound hw hs ⟨fun e => hn1 e, fun e => hn2 e⟩ ha h)
  · rename_i a b
    obtain ⟨rfl, ha⟩ := Rep.str_inv' hx
    obtain ⟨rfl, _⟩ := Rep.str_inv' hy
    exact gen (by cases op <;> simp [eqGuard]) (str_sound hw hs h)
  · rename_i a b
    have := Rep.bool_inv' hx; subst this
    have := Rep.bool_inv' hy; subst this
    obtain ⟨hty, hT⟩ := h
    obtain ⟨i, d, z, k⟩ := hL.known ht
    have hd : d = .bool := by
      have := k.desc
      rw [hty] at this
      cases d <;> simp [descIs] at this <;> rfl
    subst hd
    refine gen (by simp [eqGuard]) (Runs.pure hw hs (v := .bool (a == b)) ?_ .bool ⟨hT, rfl⟩)
    have hr : (Op.equal t (.bool a) (.bool b)).run P w = .ok (a == b) w := by
      show (Op.equalIn (9999 + 1) t (.bool a) (.bool b)).run P w = _
      rw [Op.equalIn]
      simp [run_underlying k.und]
    simp only [binOp, Sem.run_bind, hr, Result.andThen_ok, Sem.run_pure]
  · rename_i a b
    have := Rep.bool_inv' hx; subst this
    have := Rep.bool_inv' hy; subst this
    obtain ⟨hty, hT⟩ := h
    obtain ⟨i, d, z, k⟩ := hL.known ht
    have hd : d = .bool := by
      have := k.desc
      rw [hty] at this
      cases d <;> simp [descIs] at this <;> rfl
    subst hd
    refine gen (by simp [eqGuard]) (Runs.pure hw hs (v := .bool (!(a == b))) ?_ .bool ⟨hT, rfl⟩)
    have hr : (Op.equal t (.bool a) (.bool b)).run P w = .ok (a == b) w := by
      show (Op.equalIn (9999 + 1) t (.bool a) (.bool b)).run P w = _
      rw [Op.equalIn]
      simp [run_underlying k.und]
    simp only [binOp, Sem.run_bind, hr, Result.andThen_ok, Sem.run_pure]
  · rename_i a b
    have := eqAgg_sound (neg := false) (x0 := x0) (y0 := y0) hL ht hw hs hx hy h
    obtain ⟨G', w', v', r, sto', a1, a2, a3, a4, a5, ⟨b, rfl, hb⟩, a7⟩ := this
    exact ⟨G', w', v', _, sto', a1, a2, a3, a4, a5, hb, a7⟩
  · rename_i a b
    have := eqAgg_sound (neg := true) (x0 := x0) (y0 := y0) hL ht hw hs hx hy h
    obtain ⟨G', w', v', r, sto', a1, a2, a3, a4, a5, ⟨b, rfl, hb⟩, a7⟩ := this
    exact ⟨G', w', v', _, sto', a1, a2, a3, a4, a5, hb, a7⟩
  · exact h.elim

theorem two_of_map {α β : Type} {f : α → β} {l : List α} {u v : β} (h : l.map f = [u, v]) : ∃ x y, l = [x, y] ∧ f x = u ∧ f y = v := by
  match l, h with
  | [x, y], h => simp at h; exact ⟨x, y, rfl, h.1, h.2⟩
  | [], h => simp at h
  | [_], h => simp at h
  | _ :: _ :: _ :: _, h => simp at h

set_option maxHeartbeats 4000000 in
theorem vcOp_sound (hL : LOk P L) {o : Oper} {tm : Tm} {sto : Sto} {d : Nat} {T : AVal → Sto → Prop} {a : Act} {G : Gh} {w : World} (hw : WOk G w) (hs : StoOk G w sto) (ht : TmOk G tm a.tmps) (hok : opOk L o.op = true)
    (h : vcOp L tm sto d T o.op) : OpRuns P o a.eval G w T := by
  obtain ⟨dst, op, type, pos, after, guard⟩ := o
  simp only [opOk, Bool.and_eq_true] at hok
  obtain ⟨hops, hty⟩ := hok
  have hops' : ∀ x ∈ op.operands, operandOk x = true := fun x hx => by
    have := Array.all_eq_true'.1 hops x hx
    exact this
  cases op <;> simp only [vcOp] at h
  case move x => exact OpRuns.of (s := pure (a.eval x)) (by simp [execOp]) (Runs.pure hw hs rfl (ev_rep hw ht (hops' x (by simp [Op.operands]))) h)
  case assign x => exact OpRuns.of (s := pure (a.eval x)) (by simp [execOp]) (Runs.pure hw hs rfl (ev_rep hw ht (hops' x (by simp [Op.operands]))) h)
  case pick c x y =>
    split at h
    · rename_i b hb
      have hc := ev_rep hw ht (hops' c (by simp [Op.operands]))
      rw [hb] at hc
      have hcv := Rep.bool_inv' hc
      cases b with
      | true => exact OpRuns.of (s := pure (a.eval x)) (by simp [execOp, hcv, asBool]) (Runs.pure hw hs rfl (ev_rep hw ht (hops' x (by simp [Op.operands]))) (h.1 rfl))
      | false => exact OpRuns.of (s := pure (a.eval y)) (by simp [execOp, hcv, asBool]) (Runs.pure hw hs rfl (ev_rep hw ht (hops' y (by simp [Op.operands]))) (h.2 rfl))
    · exact h.elim
  case alloc t => exact OpRuns.of (s := Instr.alloc t true (.tuple #[])) rfl (alloc_sound hL (by simpa using hty) hw hs h)
  case box t x => exact OpRuns.of (s := Instr.box t (a.eval x)) rfl (box_sound hw hs (ev_rep hw ht (hops' x (by simp [Op.operands]))) h)
  case build t ps =>
    exact OpRuns.of (s := Instr.build t (ps.map fun (i, x) => (i, a.eval x))) rfl (build_sound hL (by simpa using hty) hw hs (by
      rw [Array.toList_map]; exact parts_rep hw ht ps.toList fun p hp => hops' _ (by simp only [Op.operands]; simp; exact ⟨p.1, by simpa using hp⟩)) h)
  case buildSlice t n ps =>
    exact OpRuns.of (s := Instr.buildSlice t n (ps.map fun (i, x) => (i, a.eval x))) rfl (buildSlice_sound hL (by simpa using hty) hw hs (by
      rw [Array.toList_map]; exact parts_rep hw ht ps.toList fun p hp => hops' _ (by simp only [Op.operands]; simp; exact ⟨p.1, by simpa using hp⟩)) (fun e => zero_len hL (by simpa using hty)) h)
  case load t x => exact OpRuns.of (s := Instr.loadAt t (a.eval x)) rfl ((load_sound hL (by simpa using hty) hw hs (ev_rep hw ht (hops' x (by simp [Op.operands]))) h).same fun r hr => hr)
  case store t x y => exact OpRuns.ofU (s := Instr.storeAt t (a.eval x) (a.eval y)) rfl (store_soundN hL (by simpa using hty) hw hs (ev_rep hw ht (hops' x (by simp [Op.operands]))) (ev_rep hw ht (hops' y (by simp [Op.operands]))) h)
  case nilCheck x =>
    have hx := ev_rep hw ht (hops' x (by simp [Op.operands]))
    split at h
    · rename_i he; rw [he] at hx
      obtain ⟨b, cap, esz, hM, hv⟩ := hx.box_inv
      exact OpRuns.of (s := pure (a.eval x)) (by simp [execOp, hv]) (Runs.pure hw hs rfl hx h)
    · rename_i he; rw [he] at hx
      obtain ⟨b, cap, esz, hM, hv⟩ := hx.loc_inv
      exact OpRuns.of (s := pure (a.eval x)) (by simp [execOp, hv]) (Runs.pure hw hs rfl hx h)
    · rename_i he; rw [he] at hx
      obtain ⟨b, off, c, e, fr, hv, _⟩ := Rep.ref_inv' hx
      exact OpRuns.of (s := pure (a.eval x)) (by simp [execOp, hv]) (Runs.pure hw hs rfl hx h)
    · rename_i he; rw [he] at hx
      have hx' := hx
      generalize hv : a.eval x = vv at hx'
      cases hx' with
      | fn h1 h2 => exact OpRuns.of (s := pure (a.eval x)) (by simp [execOp, hv]) (Runs.pure hw hs rfl hx h)
    · exact h.elim
  case binOp op xt x y yt =>
    have hx := ev_rep hw ht (hops' x (by simp [Op.operands]))
    have hy := ev_rep hw ht (hops' y (by simp [Op.operands]))
    have hto : (L xt).ty ≠ .other := by simpa using hty
    by_cases hn : isNilSlice y = true
    · rw [if_pos hn] at h
      obtain ⟨l0, c0, rfl⟩ : ∃ l0 c0, y = .const (.slice none l0 c0) := by
        unfold isNilSlice at hn
        split at hn
        · exact ⟨_, _, rfl⟩
        · cases hn
      split at h
      · have hns := nil_sound (neg := false) (l0 := l0) (c0 := c0) hL hto hw hs hx h
        obtain ⟨G', w', v', r, sto', a1, a2, a3, a4, a5, ⟨b, rfl, hb⟩, rfl⟩ := hns
        refine ⟨G', w', v', _, _, .inl ?_, a2, a3, a4, a5, hb⟩
        have hg : ∀ v : Value, (eqGuard .eql xt x (.const (.slice none l0 c0)) v (.slice none l0 c0)).run P w = .ok () w := by intro v; cases v <;> simp [eqGuard]
        have hcv : a.eval (.const (.slice none l0 c0)) = .slice none l0 c0 := rfl
        simp only [Bool.false_eq_true, if_false] at a1
        simp only [execOp, hcv, Sem.run_bind, hg, Result.andThen_ok, a1, Sem.run_pure]
      · have hns := nil_sound (neg := true) (l0 := l0) (c0 := c0) hL hto hw hs hx h
        obtain ⟨G', w', v', r, sto', a1, a2, a3, a4, a5, ⟨b, rfl, hb⟩, rfl⟩ := hns
        refine ⟨G', w', v', _, _, .inl ?_, a2, a3, a4, a5, hb⟩
        have hg : ∀ v : Value, (eqGuard .neq xt x (.const (.slice none l0 c0)) v (.slice none l0 c0)).run P w = .ok () w := by intro v; cases v <;> simp [eqGuard]
        have hcv : a.eval (.const (.slice none l0 c0)) = .slice none l0 c0 := rfl
        simp only [if_true] at a1
        simp only [execOp, hcv, Sem.run_bind, hg, Result.andThen_ok, a1, Sem.run_pure]
      · exact h.elim
    · rw [if_neg hn] at h
      exact OpRuns.of (s := do eqGuard op xt x y (a.eval x) (a.eval y); binOp op xt (a.eval x) (a.eval y)) rfl ((bin_sound hL hto hw hs hx hy h).same fun r hr => hr)
  case unOp op t x => exact OpRuns.of (s := Op.unary op (a.eval x)) rfl ((unary_sound hw hs (ev_rep hw ht (hops' x (by simp [Op.operands]))) h).same fun r hr => hr)
  case convert s t x => exact OpRuns.of (s := convert s t (a.eval x)) rfl ((convert_sound hL (by simpa using hty) hw hs (ev_rep hw ht (hops' x (by simp [Op.operands]))) h).same fun r hr => hr)
  case makeFunc fn first cap =>
    cases fn <;> simp only at h
    case func f =>
      obtain ⟨rfl, hT⟩ := h
      refine OpRuns.of (s := Instr.makeFunc (.func f) (#[].map a.eval) (cap.map a.eval)) rfl (Runs.pure hw hs (v := .func (.func f) #[] (cap.map a.eval)) (by simp [Instr.makeFunc]) (.fn (by simp) fun j x hx => ?_) hT)
      rw [List.getElem?_map] at hx
      cases hc : cap.toList[j]? with
      | none => rw [hc] at hx; cases hx
      | some y =>
        rw [hc] at hx
        simp only [Option.map_some, Option.some.injEq] at hx
        subst hx
        have hy := ev_rep hw ht (hops' y (by
          have := List.mem_of_getElem? hc
          simp only [Op.operands, Array.mem_append]
          exact .inr (by simpa using this)))
        have e : (cap.map a.eval).getD j undef = a.eval y := by
          simp only [Array.getElem?_toList] at hc
          simp [hc]
        rw [e]; exact hy
    all_goals exact h.elim
  case makeMap t r =>
    cases r with
    | some _ => exact h.elim
    | none => exact OpRuns.of (s := Instr.makeMap t none) rfl (makeMap_sound hw hs h.2)
  case makeSlice t l c => exact OpRuns.of (s := Instr.makeSlice t (a.eval l) (a.eval c)) rfl (make_sound hL (by simpa using hty) hw hs (ev_rep hw ht (hops' l (by simp [Op.operands]))) (ev_rep hw ht (hops' c (by simp [Op.operands]))) (fun e => zero_len hL (by simpa using hty)) h)
  case slice t x lo hi mx =>
    refine OpRuns.of (s := Instr.sliceAt t (a.eval x) (lo.map a.eval) (hi.map a.eval) (mx.map a.eval)) rfl ((slice_sound hL (by simpa using hty) hw hs (ev_rep hw ht (hops' x (by simp [Op.operands]))) (opt_rep hw ht ?_) (opt_rep hw ht ?_) (opt_rep hw ht ?_) (by simpa using h.1) h.2).same fun r hr => hr)
    · rintro y rfl; exact hops' y (by simp [Op.operands])
    · rintro y rfl; exact hops' y (by simp [Op.operands])
    · rintro y rfl; exact hops' y (by simp [Op.operands])
  case fieldAddr t x f => exact OpRuns.of (s := Instr.fieldAt t (a.eval x) f) rfl ((fieldAddr_sound hL (by simpa using hty) hw hs (ev_rep hw ht (hops' x (by simp [Op.operands]))) h).same fun r hr => hr)
  case field t x f => exact OpRuns.of (s := Instr.field t (a.eval x) f) rfl ((fieldOf_sound hL (by simpa using hty) hw hs (ev_rep hw ht (hops' x (by simp [Op.operands]))) h).same fun r hr => hr)
  case indexAddr t x y => exact OpRuns.of (s := Instr.indexAt t (a.eval x) (a.eval y)) rfl ((indexAddr_sound hL (by simpa using hty) hw hs (ev_rep hw ht (hops' x (by simp [Op.operands]))) (ev_rep hw ht (hops' y (by simp [Op.operands]))) h).same fun r hr => hr)
  case index t x y => exact OpRuns.of (s := Instr.index t (a.eval x) (a.eval y)) rfl ((index_sound hL (by simpa using hty) hw hs (ev_rep hw ht (hops' x (by simp [Op.operands]))) (ev_rep hw ht (hops' y (by simp [Op.operands]))) h).same fun r hr => hr)
  case lookup t m k ok => exact OpRuns.of (s := Instr.lookup t (a.eval m) (a.eval k) ok) rfl ((lookup_sound hL (by simpa using hty) hw hs (ev_rep hw ht (hops' m (by simp [Op.operands]))) (ev_rep hw ht (hops' k (by simp [Op.operands]))) h).same fun r hr => hr)
  case mapUpdate t m k x => exact OpRuns.ofU (s := Instr.mapUpdate t (a.eval m) (a.eval k) (a.eval x)) rfl (mapUpdate_sound hL (by simpa using hty) hw hs (ev_rep hw ht (hops' m (by simp [Op.operands]))) (ev_rep hw ht (hops' k (by simp [Op.operands]))) (ev_rep hw ht (hops' x (by simp [Op.operands]))).nrmV h)
  case extract x i => exact OpRuns.of (s := Instr.extract (a.eval x) i) rfl ((extract_sound hw hs (ev_rep hw ht (hops' x (by simp [Op.operands]))) h).same fun r hr => hr)
  case call c =>
    obtain ⟨callee, args, ts⟩ := c
    cases callee with
    | builtin b =>
      simp only at h
      have hargs : ∀ x ∈ args.toList, operandOk x = true := fun x hx => hops' x (by simp only [Op.operands, Call.operands, Array.mem_append]; exact .inr (by simpa using hx))
      obtain ⟨args⟩ := args
      obtain ⟨ts⟩ := ts
      simp only at h hargs hty
      unfold vcBuiltin at h
      split at h
      · rename_i t0 x0 h2
        obtain ⟨x, rfl⟩ : ∃ x, args = [x] := by
          cases args with
          | nil => simp at h2
          | cons x xs => cases xs with
            | nil => exact ⟨x, rfl⟩
            | cons => simp at h2
        simp at h2
        subst h2
        exact OpRuns.of (s := Builtin.len_ #[t0] type #[a.eval x]) (by simp [execOp, resolve, invoke, builtin]) ((len_sound hL (by simpa using hty) hw hs (ev_rep hw ht (hargs x (by simp))) h).same fun r hr => hr)
      · rename_i t0 t1 x0 x1 h2
        obtain ⟨x, y, rfl, rfl, rfl⟩ := two_of_map h2
        have ht0 : (L t0).ty ≠ .other := by simp at hty; exact hty.1
        exact OpRuns.of (s := Builtin.append_ #[t0, t1] type #[a.eval x, a.eval y]) (by simp [execOp, resolve, invoke, builtin]) (append_sound hL ht0 hw hs (ev_rep hw ht (hargs x (by simp))) (ev_rep hw ht (hargs y (by simp))) (fun e => zero_len hL ht0) h)
      · rename_i k n k' m h2
        obtain ⟨x, y, rfl, hx1, hx2⟩ := two_of_map h2
        have e1 := ev_rep hw ht (hargs x (by simp)); rw [hx1] at e1
        have e2 := ev_rep hw ht (hargs y (by simp)); rw [hx2] at e2
        obtain ⟨v1, f1⟩ := Rep.int_inv' e1
        obtain ⟨v2, f2⟩ := Rep.int_inv' e2
        obtain ⟨rfl, hT⟩ := h
        exact OpRuns.of (s := Builtin.max_ _ type #[.int k n, .int k m]) (by simp [execOp, resolve, invoke, builtin, v1, v2]; rfl) (max2usound hw hs f1 f2 hT)
      · rename_i k n k' m h2
        obtain ⟨x, y, rfl, hx1, hx2⟩ := two_of_map h2
        have e1 := ev_rep hw ht (hargs x (by simp)); rw [hx1] at e1
        have e2 := ev_rep hw ht (hargs y (by simp)); rw [hx2] at e2
        obtain ⟨v1, f1⟩ := Rep.int_inv' e1
        obtain ⟨v2, f2⟩ := Rep.int_inv' e2
        obtain ⟨rfl, hT⟩ := h
        exact OpRuns.of (s := Builtin.min_ _ type #[.int k n, .int k m]) (by simp [execOp, resolve, invoke, builtin, v1, v2]; rfl) (min2usound hw hs f1 f2 hT)
      · exact h.elim
    | _ => exact h.elim
  all_goals first | exact h.elim | contradiction
end Go.Rad
