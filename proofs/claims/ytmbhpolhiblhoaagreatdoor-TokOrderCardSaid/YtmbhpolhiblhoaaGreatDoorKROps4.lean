/- A part of the proof. -/
import Derived.Test.YtmbhpolhiblhoaaGreatDoorKRMem
import Derived.Laws.MakeOwn
import Derived.Laws.IdiomStrings
import Derived.MapKept
set_option linter.all false
namespace Go.Rad
open Go
variable {P : Program} {L : Lay}
structure aU (G : Gh) (esz : Nat) (l : List (List aa)) (xs : List Value) : Prop where
 len : xs.length = l.length * esz
 each : ∀ (i : Nat) (x : List aa), l[i]? = some x → x.length = esz
 cell : ∀ (i j : Nat) (x : List aa) (y : aa), l[i]? = some x → x[j]? = some y → y.ar = true
 rep : ∀ (i j : Nat) (x : List aa) (y : aa), l[i]? = some x → x[j]? = some y → Rep G false y (xs.getD (i * esz + j) undef)
theorem aU.nrm {G : Gh} {esz : Nat} {l : List (List aa)} {xs : List Value} (h : aU G esz l xs) : aU G esz (l.map (List.map c8)) xs := by
 refine ⟨by simpa using h.len, fun i x hx => ?_, fun i j x y hx hy => ?_, fun i j x y hx hy => ?_⟩
 ·rw [List.getElem?_map] at hx
  obtain ⟨x', hx', rfl⟩ := Option.map_eq_some_iff.1 hx
  simpa using h.each i x' hx'
 ·rw [List.getElem?_map] at hx
  obtain ⟨x', hx', rfl⟩ := Option.map_eq_some_iff.1 hx
  rw [List.getElem?_map] at hy
  obtain ⟨y', hy', rfl⟩ := Option.map_eq_some_iff.1 hy
  rw [pT]; exact h.cell i j x' y' hx' hy'
 ·rw [List.getElem?_map] at hx
  obtain ⟨x', hx', rfl⟩ := Option.map_eq_some_iff.1 hx
  rw [List.getElem?_map] at hy
  obtain ⟨y', hy', rfl⟩ := Option.map_eq_some_iff.1 hy
  exact (h.rep i j x' y' hx' hy').c8
theorem cf {α : Type} {l : List α} {i : Nat} {x : α} (h : l[i]? = some x) : i < l.length := by
 rcases Nat.lt_or_ge i l.length with h' | h'
 ·exact h'
 ·rw [List.getElem?_eq_none h'] at h; cases h
theorem aU.append {G : Gh} {esz : Nat} {l m : List (List aa)} {xs ys : List Value} (h : aU G esz l xs) (k : aU G esz m ys) : aU G esz (l ++ m) (xs ++ ys) where
 len := by rw [List.length_append, List.length_append, h.len, k.len, Nat.add_mul]
 each i x hx := by
  rw [List.getElem?_append] at hx
  split at hx
  ·exact h.each _ _ hx
  ·exact k.each _ _ hx
 cell i j x y hx hy := by
  rw [List.getElem?_append] at hx
  split at hx
  ·exact h.cell _ _ _ _ hx hy
  ·exact k.cell _ _ _ _ hx hy
 rep i j x y hx hy := by
  rw [List.getElem?_append] at hx
  split at hx
  ·rename_i hi
   have hj : j < esz := by have := cf hy; rw [h.each _ _ hx] at this; exact this
   have hroom := dB (esz := esz) hi (Nat.le_refl _)
   have hlt : i * esz + j < xs.length := by rw [h.len]; omega
   have := h.rep _ _ _ _ hx hy
   simpa [List.getD_eq_getElem?_getD, List.getElem?_append, hlt] using this
  ·rename_i hi
   have hj : j < esz := by have := cf hy; rw [k.each _ _ hx] at this; exact this
   have h1 : l.length * esz ≤ i * esz := Nat.mul_le_mul_right _ (by omega)
   have h2 : (i - l.length) * esz = i * esz - l.length * esz := Nat.sub_mul _ _ _
   have hge : ¬ i * esz + j < xs.length := by rw [h.len]; omega
   have := k.rep _ _ _ _ hx hy
   rw [h2] at this
   have e : i * esz + j - xs.length = i * esz - l.length * esz + j := by rw [h.len]; omega
   simpa [List.getD_eq_getElem?_getD, List.getElem?_append, hge, e] using this
theorem aU.mono {G G' : Gh} {esz : Nat} {l : List (List aa)} {xs : List Value} (h : aU G esz l xs) (hm : uh G G') : aU G' esz l xs :=
 ⟨h.len, h.each, h.cell, fun i j x y hx hy => (h.rep i j x y hx hy).mono hm⟩
theorem aU.kl {G : Gh} {esz : Nat} {l : List (List aa)} {xs : List Value} (h : aU G esz l xs) (hz : 0 < esz) : ∀ u ∈ xs, u.oneCell' = true := by
 intro u hu
 obtain ⟨n, hn, rfl⟩ := List.getElem_of_mem hu
 have hn' := hn
 rw [h.len] at hn'
 have hi : n / esz < l.length := by rw [Nat.div_lt_iff_lt_mul hz]; exact hn'
 have hj : n % esz < esz := Nat.mod_lt _ hz
 have hx : l[n / esz]? = some l[n / esz] := by simp [hi]
 have hxl := h.each _ _ hx
 have hy : (l[n / esz])[n % esz]? = some (l[n / esz])[n % esz] := by simp [hxl, hj]
 have hr := h.rep _ _ _ _ hx hy
 have hc := h.cell _ _ _ _ hx hy
 have e : n / esz * esz + n % esz = n := Nat.div_add_mod' n esz
 rw [e] at hr
 have e2 : xs.getD n undef = xs[n] := by simp [List.getD, hn]
 rw [e2] at hr
 exact hr.kl hc
theorem aU.nil {G : Gh} {esz : Nat} : aU G esz [] [] := ⟨by simp, fun i x h => by simp at h, fun i j x y h => by simp at h, fun i j x y h => by simp at h⟩
theorem aU.kj {G : Gh} {esz : Nat} {l : List (List aa)} {c : Array Value} {off : Nat} (hfit : off + l.length * esz ≤ c.size)
  (h1 : ∀ (i : Nat) (x : List aa), l[i]? = some x → x.length = esz)
  (h2 : ∀ (i j : Nat) (x : List aa) (y : aa), l[i]? = some x → x[j]? = some y → y.ar = true ∧ Rep G false y (c.getD (off + i * esz + j) Go.undef)) :
  aU G esz l ((c.toList.drop off).take (l.length * esz)) where
 len := by simp; omega
 each := h1
 cell i j x y hx hy := (h2 i j x y hx hy).1
 rep i j x y hx hy := by
  have hj : j < esz := by have := cf hy; rw [h1 _ _ hx] at this; exact this
  have hroom := dB (esz := esz) (cf hx) (Nat.le_refl _)
  have := (h2 i j x y hx hy).2
  have e : ((c.toList.drop off).take (l.length * esz)).getD (i * esz + j) Go.undef = c.getD (off + i * esz + j) Go.undef := by
   simp only [List.getD_eq_getElem?_getD, List.getElem?_take, List.getElem?_drop, Array.getElem?_toList, Array.getD_eq_getD_getElem?]
   rw [if_pos (by omega), Nat.add_assoc]
  rw [e]; exact this
theorem aU.fj {c : Array Value} {off n : Nat} {w : World} {b : Nat} {e : TypeId} {fr : Nat × Nat} (hb : w.heap[b]? = some (.cells c e fr)) :
  ∀ (j : Nat) (u : Value), ((c.toList.drop off).take n)[j]? = some u → w.cell? ((⟨b, off, none⟩ : Addr).add j) = some u := by
 intro j u hu
 rw [aV, cell_of_row w b (off + j) c e fr hb]
 simp only [List.getElem?_take, List.getElem?_drop, Array.getElem?_toList] at hu
 split at hu
 ·exact hu
 ·cases hu
theorem sq {x : aa} {v : Value} {G : Gh} {w : World} {sto : Sto} {m : List (List aa)} {esz : Nat} (hw : WOk G w) (hs : an G w sto) (hx : Rep G true x v) (h : cE x sto = some m)
  (hm : ∀ y ∈ m, y.length = esz ∧ y.all aa.bT = true) (hz : 0 < esz) :
  (m = [] ∧ ∃ a c, v = .slice a 0 c) ∨ (m ≠ [] ∧ ∃ ad c news, v = .slice (some ad) m.length c ∧ aU G esz m news ∧ ∀ (j : Nat) (u : Value), news[j]? = some u → w.cell? (ad.add j) = some u) := by
 unfold cE at h
 split at h
 ·rename_i q full l
  simp only [Option.some.injEq] at h
  subst h
  by_cases hne : l = []
  ·subst hne
   obtain ⟨a, cap, rfl, _⟩ := hx.fE
   exact .inl ⟨rfl, a, cap, rfl⟩
  ·obtain ⟨b, off, cap, c, e, fr, esz', rfl, _, _, hq, hF, hfit, hlen, hj⟩ := hx.oz hne
   right
   have he : esz' = esz := by
    obtain ⟨y, ys, rfl⟩ := List.exists_cons_of_ne_nil hne
    have h1 := hlen 0 y rfl
    have h2 := (hm y (by simp)).1
    omega
   subst he
   exact ⟨hne, _, _, _, rfl, aU.kj hfit hlen hj, aU.fj (hw.F _ _ hF)⟩
 ·rename_i id g off len
  split at h
  ·rename_i g' esz0 l hget
   split at h
   ·rename_i hc
    obtain ⟨rfl, hle⟩ := hc
    simp only [Option.some.injEq] at h
    obtain ⟨ob, cap, esz1, a, rfl, hM, hcap, _, hcn, ha, ha0⟩ := Rep.dD hx
    have hob := hs.obj _ _ _ hget
    by_cases hne : m = []
    ·have hl0 : len = 0 := by
      have : ((l.drop off).take len).length = 0 := by rw [h, hne]; rfl
      simp at this; omega
     subst hl0
     exact .inl ⟨hne, a, _, rfl⟩
    ·right
     have hlen : len ≠ 0 := by rintro rfl; apply hne; rw [← h]; simp
     obtain ⟨b, rfl⟩ : ∃ b, ob = some b := by
      cases ob with
      | none => have := hcn rfl; omega
      | some b => exact ⟨b, rfl⟩
     obtain ⟨he0, hcap', hF, c, e, ⟨fr, hb, _⟩, hcs, hle', hj⟩ := rm hob hM
     subst he0
     have hml : m.length = len := by rw [← h]; simp; omega
     have hget' : ∀ (i : Nat) (x : List aa), m[i]? = some x → l[off + i]? = some x := by
      intro i x hx
      rw [← h, List.getElem?_take] at hx
      split at hx
      ·simpa using hx
      ·cases hx
     have he : esz1 = esz := by
      obtain ⟨y, ys, rfl⟩ := List.exists_cons_of_ne_nil hne
      have h1 := hle' _ y (hget' 0 y rfl)
      have h2 := (hm y (by simp)).1
      omega
     subst he
     have hroom : (off + len) * esz1 ≤ cap * esz1 := Nat.mul_le_mul_right _ (by omega)
     rw [Nat.add_mul] at hroom
     rw [ha b rfl (by omega), ← hml]
     refine ⟨hne, _, _, _, rfl, aU.kj (c := c) (off := off * esz1) (by rw [hml, hcs]; omega) (fun i x hx => hle' _ x (hget' i x hx)) (fun i j x y hx hy => ?_), aU.fj hb⟩
     have := hj _ j x y (hget' i x hx) hy
     rwa [Nat.add_mul] at this
   ·cases h
  ·cases h
 ·cases h
theorem rq {G : Gh} {w : World} {id g esz b cap : Nat} {l : List (List aa)} {c : Array Value} {e : TypeId} {xs : List Value} (hM : G.M id g = some ⟨some b, cap, esz⟩) (hF : G.F b = none) (hb : jQ w b c e)
  (hc : c.size = cap * esz) (hl : l.length ≤ cap) (hbig : l.length ≤ ao) (hcap : cap ≤ maxLen) (hz : 0 < esz) (htake : c.toList.take (l.length * esz) = xs) (hr : aU G esz l xs) : bW G w id g (.row esz l) := by
 refine ⟨some b, cap, hM, hl, hbig, hz, hr.each, hr.cell, fun h => (by cases h), fun b' hb' => ?_⟩
 simp only [Option.some.injEq] at hb'
 subst hb'
 refine ⟨hF, hcap, c, e, hb, hc, fun i j x y hx hy => ?_⟩
 have hj : j < esz := by have := cf hy; rw [hr.each _ _ hx] at this; exact this
 have hroom := dB (esz := esz) (cf hx) (Nat.le_refl _)
 have := hr.rep i j x y hx hy
 have e2 : xs.getD (i * esz + j) undef = c.getD (i * esz + j) undef := by
  rw [← htake]
  simp only [List.getD_eq_getElem?_getD, List.getElem?_take, Array.getElem?_toList, Array.getD_eq_getD_getElem?]
  rw [if_pos (by omega)]
 rwa [e2] at this
theorem q7 {G : Gh} {id g esz b cap n : Nat} (hM : G.M id g = some ⟨some b, cap, esz⟩) (h : n ≤ cap) (hb : n ≤ ao) : Rep G true (.osl id g 0 n) (.slice (some ⟨b, 0, none⟩) n cap) := by
 have := Rep.osl (off := 0) (len := n) (a := some ⟨b, 0, none⟩) hM (by omega) hb (fun h => by cases h) (fun b' hb' _ => by simp only [Option.some.injEq] at hb'; subst hb'; simp) (fun b' hb' _ => by simp only [Option.some.injEq] at hb'; subst hb'; rfl)
 simpa using this
theorem eW {t ty e : TypeId} {i2 : TypeInfo} {d2 : TypeDesc} {z2 : Value} (hu : P.underlying t = some (.slice e)) (k2 : cI P L e i2 d2 z2) {w : World} {a a' : Option Addr} {n cap c : Nat} (hn : n ≤ cap) :
  (Builtin.append_ #[t, t] ty #[.slice a n cap, .slice a' 0 c]).run P w = .ok (.slice a n cap) w := by
 have hf : (Builtin.firstCells (L e).sz 0 (.slice a' 0 c)).run P w = .ok #[] w := by
  cases a' with
  | none => simp [Builtin.firstCells]
  | some b => simp [Builtin.firstCells, loadCells, loadCellsFrom]
 cases a <;> simp [Builtin.append_, run_underlying hu, aL k2 w, Builtin.lenOf, hn, hf, storeCells]
theorem gn {G : Gh} {w : World} (hw : WOk G w) : G.F w.heap.size = none := by
 cases hF : G.F w.heap.size with
 | none => rfl
 | some o => have := (Array.getElem?_eq_some_iff.1 (hw.F _ _ hF)).1; omega
theorem fm {w : World} {need old : Nat} {e : TypeId} (h : need ≤ ao) : need ≤ grownCap w need old e ∧ grownCap w need old e ≤ maxLen :=
 ⟨grownCap_ge w need old e, grownCap_le_maxLen w need old e (by unfold ao at h; unfold maxLen; omega)⟩
theorem gi {d : Nat} {G : Gh} {w : World} {sto : Sto} {T : aa → Sto → Prop} {l m : List (List aa)} {esz capN : Nat} {olds news : List Value} {e : TypeId} {zs : Array Value} {v : Sem Value} (hw : WOk G w) (hs : an G w sto) (hz : 0 < esz)
  (hl : aU G esz l olds) (hm : aU G esz m news) (hbig : l.length + m.length ≤ ao) (hcap : l.length + m.length ≤ capN) (hcap2 : capN ≤ maxLen) (hzs : zs.size = esz)
  (hrun : v.run P w = .ok (.slice (some ⟨w.heap.size, 0, none⟩) (l.length + m.length) capN) (w.drew.alloc (.cells (olds.toArray ++ news.toArray ++ Builtin.zeroCells zs (capN - (l.length + m.length))) e)))
  (hT : ∀ h, T (.osl d h 0 (l.length + m.length)) (aF sto d (h, .row esz (l ++ m)))) : aG P v G w T := by
 have hrr := hl.append hm
 have hext := eR hw d ⟨some w.heap.size, capN, esz⟩
 have hcs : (olds.toArray ++ news.toArray ++ Builtin.zeroCells zs (capN - (l.length + m.length))).size = capN * esz := by
  simp only [Array.size_append, List.size_toArray, size_zeroCells, hzs, hl.len, hm.len, ← Nat.add_mul]
  congr 1; omega
 have htake : (olds.toArray ++ news.toArray ++ Builtin.zeroCells zs (capN - (l.length + m.length))).toList.take ((l ++ m).length * esz) = olds ++ news := by
  simp only [Array.toList_append, List.append_assoc]
  rw [← List.append_assoc, ← hrr.len]
  exact List.take_left
 obtain ⟨a, b, c⟩ := dV (w' := w.drew.alloc (.cells (olds.toArray ++ news.toArray ++ Builtin.zeroCells zs (capN - (l.length + m.length))) e)) (id := d) (o := .row esz (l ++ m)) (hd := ⟨some w.heap.size, capN, esz⟩) ((Kept.drew w).trans (Kept.alloc _ _ _)) hw hs (by simp)
  (fun b hb _ => heap_alloc_old w.drew _ b hb) (fun b hb => by simp only [Option.some.injEq] at hb; subst hb; exact ⟨by simp, .inl (Nat.le_refl _)⟩)
  (rq (xs := olds ++ news) (bU _ _ _) (show G.F w.heap.size = none from gn hw) (.zero (heap_alloc_new w.drew _)) hcs (by simpa using hcap) (by simpa using hbig) hcap2 hz htake (hrr.mono hext.toMono))
 exact ⟨_, _, _, _, _, hrun, a, b, c, q7 (bU _ _ _) hcap hbig, hT _⟩
theorem jd {e : Nat} {i2 : TypeInfo} {d2 : TypeDesc} {z2 : Value} (k2 : cI P L e i2 d2 z2) : z2.cells.size = (L e).zero.length := by
 have := eo _ _ k2.zeros
 simpa using this.symm
theorem mf {t ty e e' : TypeId} {i2 : TypeInfo} {d2 : TypeDesc} {z2 : Value} (hu : P.underlying t = some (.slice e)) (k2 : cI P L e i2 d2 z2) {w : World} {g sLen sCap : Nat} {cur : Array Value} (hg : jQ w g cur e')
  {a : Addr} {m c : Nat} {news : List Value} (hl : news.length = m * (L e).sz) (hnews : ∀ (j : Nat) (u : Value), news[j]? = some u → w.cell? (a.add j) = some u) (h1 : ∀ u ∈ news, u.oneCell' = true)
  (hroom : sLen + m ≤ sCap) (hfit : sLen * (L e).sz + news.length ≤ cur.size) :
  (Builtin.append_ #[t, t] ty #[.slice (some ⟨g, 0, none⟩) sLen sCap, .slice (some a) m c]).run P w =
   .ok (.slice (some ⟨g, 0, none⟩) (sLen + m) sCap) (w.setRow g (cur.toList.take (sLen * (L e).sz) ++ news ++ cur.toList.drop (sLen * (L e).sz + news.length)).toArray) := by
 have hf := run_firstCells_some (P := P) w (L e).sz m a m c news hl hnews
 obtain ⟨fr, hg, hfr⟩ := hg
 have hst := fh P g (sLen * (L e).sz) e' fr news 0 cur w hg hfr (by simpa using hfit) h1
 simp only [Nat.add_zero] at hst
 simp [Builtin.append_, run_underlying hu, aL k2 w, Builtin.lenOf, hroom, hf, aV, hst]
theorem qo (hL : LOk P L) {t t2 ty d : Nat} (ht : (L t).ty ≠ .other) {x y : aa} {v u : Value} {G : Gh} {w : World} {sto : Sto} {T : aa → Sto → Prop} (hw : WOk G w) (hs : an G w sto)
  (hx : Rep G true x v) (hy : Rep G true y u) (hzero : ∀ e, (L t).ty = .slice e → (L e).zero.length = (L e).sz) (h : fZ L d t t2 x y sto T) : aG P (Builtin.append_ #[t, t2] ty #[v, u]) G w T := by
 obtain ⟨i, dd, z, k⟩ := hL.known ht
 obtain ⟨rfl, h⟩ := h
 split at h
 ·rename_i e he
  obtain ⟨rfl, heo⟩ := bK k he
  obtain ⟨i2, d2, z2, k2⟩ := hL.known heo
  obtain ⟨m, hm, hz, hme, h⟩ := h
  have hu := k.und
  have hzs : z2.cells.size = (L e).sz := by rw [jd k2]; exact hzero e he
  have hsrc := sq hw hs hy hm hme hz
  have hgrowE : ∀ (d : Nat) (a : Option Addr), (∀ h, T (.osl d h 0 (0 + m.length)) (aF sto d (h, .row (L e).sz ([] ++ m)))) → m.length ≤ ao → m.length * (L e).by8 ≤ ao →
    ∀ (ad : Addr) (c' : Nat) (news : List Value), m ≠ [] → aU G (L e).sz m news → (∀ (j : Nat) (u : Value), news[j]? = some u → w.cell? (ad.add j) = some u) →
    aG P (Builtin.append_ #[t2, t2] ty #[.slice a 0 0, .slice (some ad) m.length c']) G w T := by
   intro d a hT hbig hby ad c' news hne hnews hcells
   have hmpos : 0 < m.length := List.length_pos_iff.2 hne
   have hm0 : news.length = m.length * (L e).sz := hnews.len
   have hgf := fm (w := w) (old := 0) (e := e) hbig
   cases a with
   | none =>
    have hr := run_append_nil (P := P) w t2 ty e i2 z2 hu k2.info k2.zero ad m.length c' news (by rw [hm0, k2.size]) hcells hmpos (by unfold ao at hbig; omega) (by rw [k2.bytes]; unfold ao at hby; omega)
    exact gi (l := []) (olds := []) (zs := z2.cells) (e := e) hw hs hz aU.nil hnews (by simpa using hbig) (by simpa using hgf.1) hgf.2 hzs (by simpa using hr) hT
   | some b =>
    have hr := run_append_grow (P := P) w t2 ty e i2 z2 hu k2.info k2.zero b 0 0 [] (by simp) (fun j v h => by simp at h) ad m.length c' news (by rw [hm0, k2.size]) hcells (by omega) (by unfold ao at hbig; omega)
     (growslice_fits (by omega) (by rw [k2.bytes, Nat.zero_add]; exact hby))
    exact gi (l := []) (olds := []) (zs := z2.cells) (e := e) hw hs hz aU.nil hnews (by simpa using hbig) (by simpa using hgf.1) hgf.2 hzs (by simpa using hr) hT
  split at h
  ·rename_i id g off len
   split at h
   case h_2 => exact h.elim
   rename_i g' esz l hget
   obtain ⟨rfl, rfl, rfl, rfl, hby, hbig, hT⟩ := h
   obtain ⟨ob, cap, esz1, a, rfl, hM, hcap, _, hcn, ha, ha0⟩ := Rep.dD hx
   have hob := hs.obj _ _ _ hget
   obtain ⟨ob', cap', hM', o1, o2, o3, o4, o5, o6, o7⟩ := hob
   have hMM := hM'
   rw [hM] at hM'
   simp only [Option.some.injEq, Hd.mk.injEq] at hM'
   obtain ⟨rfl, rfl, rfl⟩ := hM'
   simp only [Nat.sub_zero, Nat.zero_add] at hcap ⊢
   rcases hsrc with ⟨rfl, a', c', rfl⟩ | ⟨hne, ad, c', news, rfl, hnews, hcells⟩
   ·
    have hext := eR hw id ⟨ob, cap, (L e).sz⟩
    have hblk : au G id g' = ob := by simp [au, hMM]
    obtain ⟨b1, b2, b3⟩ := dV (w' := w) (id := id) (o := .row (L e).sz (l ++ [])) (hd := ⟨ob, cap, (L e).sz⟩) (Kept.refl _) hw hs (Nat.le_refl _) (fun _ _ _ => rfl)
     (fun b hb => by
      simp only at hb
      refine ⟨hw.M _ _ _ _ hMM hb, .inr ?_⟩
      simp [ir, hget, hblk, hb])
     ⟨ob, cap, bU _ _ _, by simpa using o1, by simpa using o2, o3, by simpa using o4, by simpa using o5, o6, fun b hb => by
      obtain ⟨p1, p2, c, e', p3, p4, p5⟩ := o7 b hb
      exact ⟨p1, p2, c, e', p3, p4, fun i j x y hx hy => (p5 i j x y (by simpa using hx) hy).mono hext.toMono⟩⟩
    have hr := Rep.osl (G := j9 G id ⟨ob, cap, (L e).sz⟩) (off := 0) (len := l.length + ([] : List (List aa)).length) (a := a) (bU _ _ _) (by simpa using hcap) (by simpa using hbig) hcn (fun b hb hlt => ha b hb hlt) ha0
    simp only [List.length_nil, Nat.add_zero, Nat.sub_zero] at hr
    exact ⟨j9 G id ⟨ob, cap, (L e).sz⟩, w, _, .osl id G.N 0 l.length, _, eW hu k2 hcap, b1, b2, b3, hr, by simpa using hT G.N⟩
   ·have hm0 : news.length = m.length * (L e).sz := hnews.len
    cases ob with
    | none =>
     have hcap0 := hcn rfl
     subst hcap0
     have hl0 : l = [] := List.eq_nil_of_length_eq_zero (by omega)
     subst hl0
     exact hgrowE id a hT (by simpa using hbig) (by simpa using hby) ad c' news hne hnews hcells
    | some b =>
     have hav := ha0 b rfl rfl
     subst hav
     obtain ⟨_, hcapL, hF, c, e', hrow, hcs, hle, hj⟩ := rm (hs.obj _ _ _ hget) hMM
     have hrow2 := hrow
     obtain ⟨fr, hb, hfr⟩ := hrow2
     have hblk : au G id g' = some b := by simp [au, hMM]
     have hcm : cap ≤ maxLen := (o7 b rfl).2.1
     have hlr : aU G (L e).sz l (c.toList.take (l.length * (L e).sz)) := by
      have := aU.kj (G := G) (c := c) (off := 0) (l := l) (esz := (L e).sz) (by rw [hcs, Nat.zero_add]; exact Nat.mul_le_mul_right _ hcap) hle (fun i j x y hx hy => by simpa using hj i j x y hx hy)
      simpa using this
     have hlc : ∀ (j : Nat) (u : Value), (c.toList.take (l.length * (L e).sz))[j]? = some u → w.cell? ((⟨b, 0, none⟩ : Addr).add j) = some u := by
      have := aU.fj (off := 0) (n := l.length * (L e).sz) hb
      simpa using this
     by_cases hroom : l.length + m.length ≤ cap
     ·have hfit : l.length * (L e).sz + news.length ≤ c.size := by rw [hm0, hcs, ← Nat.add_mul]; exact Nat.mul_le_mul_right _ hroom
      have hr := mf (P := P) (ty := ty) (c := c') hu k2 hrow hm0 hcells (hnews.kl hz) hroom hfit
      have hext := eR hw id ⟨some b, cap, (L e).sz⟩
      have hrr := hlr.append hnews
      obtain ⟨b1, b2, b3⟩ := dV (w' := w.setRow b (c.toList.take (l.length * (L e).sz) ++ news ++ c.toList.drop (l.length * (L e).sz + news.length)).toArray) (id := id) (o := .row (L e).sz (l ++ m)) (hd := ⟨some b, cap, (L e).sz⟩) (Kept.setRow _ _ _) hw hs (by simp)
       (fun b' _ hne => setRow_other w b b' _ (fun e => hne (by simp [ir, hget, hblk, e])))
       (fun b' hb' => by
        simp only [Option.some.injEq] at hb'
        subst hb'
        refine ⟨by simpa using hw.M _ _ _ _ hMM rfl, .inr ?_⟩
        simp [ir, hget, hblk])
       (rq (xs := c.toList.take (l.length * (L e).sz) ++ news) (bU _ _ _) hF ⟨fr, setRow_heap w b c _ e' _ hb, by rw [ec c _ _ hfit]; exact hfr⟩ (by rw [ec c _ _ hfit]; exact hcs) (by simpa using hroom) (by simpa using hbig) hcm hz
        (by rw [← hrr.len]; exact List.take_left) (hrr.mono hext.toMono))
      exact ⟨_, _, _, _, _, hr, b1, b2, b3, q7 (bU _ _ _) hroom hbig, hT _⟩
     ·have hr := run_append_grow (P := P) w t2 ty e i2 z2 hu k2.info k2.zero ⟨b, 0, none⟩ l.length cap (c.toList.take (l.length * (L e).sz)) (by rw [hlr.len, k2.size]) hlc ad m.length c' news (by rw [hm0, k2.size]) hcells (by omega) (by unfold ao at hbig; omega)
       (growslice_fits (by omega) (by rw [k2.bytes]; exact hby))
      have hgf := fm (w := w) (old := cap) (e := e) hbig
      exact gi hw hs hz hlr hnews hbig hgf.1 hgf.2 hzs hr hT
  ·rename_i q full l
   obtain ⟨rfl, hle, hby, hbig, hne0, hT⟩ := h
   by_cases hl : l = []
   ·subst hl
    obtain ⟨a, cap, rfl, _, _, hfull⟩ := hx.fE
    have hc0 : cap = 0 := by simpa using hfull rfl
    subst hc0
    rcases hsrc with ⟨rfl, a', c', rfl⟩ | ⟨hne, ad, c', news, rfl, hnews, hcells⟩
    ·have hext := eR hw d ⟨none, 0, (L e).sz⟩
     obtain ⟨b1, b2, b3⟩ := dV (w' := w) (id := d) (o := .row (L e).sz []) (hd := ⟨none, 0, (L e).sz⟩) (Kept.refl _) hw hs (Nat.le_refl _) (fun _ _ _ => rfl)
      (fun b hb => by cases hb)
      ⟨none, 0, bU _ _ _, by simp, by simp, hz, fun i x h => by simp at h, fun i j x y h => by simp at h, fun _ => rfl, fun b hb => by cases hb⟩
     have hr := Rep.osl (G := j9 G d ⟨none, 0, (L e).sz⟩) (off := 0) (len := 0) (a := a) (bU _ _ _) (Nat.le_refl _) (Nat.zero_le _) (fun _ => rfl) (fun b hb => by cases hb) (fun b hb => by cases hb)
     exact ⟨_, w, _, _, _, eW hu k2 (Nat.le_refl _), b1, b2, b3, hr, by simpa using hT G.N⟩
    ·exact hgrowE d a hT (by simpa using hbig) (by simpa using hby) ad c' news hne hnews hcells
   ·have hmne : m ≠ [] := hne0.resolve_right hl
    obtain ⟨b, off, cap, c, e', fr, esz', rfl, hlc, _, hq, hF, hfit, hlen, hj⟩ := hx.oz hl
    have hcap : cap = l.length := by
     obtain ⟨a2, cap2, h1, _, _, h2⟩ := hx.fE
     simp only [Value.slice.injEq] at h1
     rw [h1.2.2]; exact h2 rfl
    subst hcap
    have hesz : esz' = (L e).sz := by
     obtain ⟨y, ys, rfl⟩ := List.exists_cons_of_ne_nil hl
     have h1 := hlen 0 y rfl
     have h2 := (hle y (by simp)).1
     omega
    subst hesz
    rcases hsrc with ⟨h0, _⟩ | ⟨hne, ad, c', news, rfl, hnews, hcells⟩
    ·exact absurd h0 hmne
    ·have hb := hw.F _ _ hF
     have hlr := aU.kj (G := G) hfit hlen hj
     have hmpos : 0 < m.length := List.length_pos_iff.2 hne
     have hr := run_append_grow (P := P) w t2 ty e i2 z2 hu k2.info k2.zero ⟨b, off, none⟩ l.length l.length _ (by rw [hlr.len, k2.size]) (aU.fj hb) ad m.length c' news (by rw [hnews.len, k2.size]) hcells (by omega) (by unfold ao at hbig; omega)
      (growslice_fits (by omega) (by rw [k2.bytes]; exact hby))
     have hgf := fm (w := w) (old := l.length) (e := e) hbig
     exact gi hw hs hz hlr hnews hbig hgf.1 hgf.2 hzs hr hT
  ·exact h.elim
 ·exact h.elim
end Go.Rad
namespace Go.Rad
open Go
variable {P : Program} {L : Lay}
theorem tO {op : UnOp} {x : aa} {v : Value} {T : aa → Prop} {G : Gh} {w : World} {sto : Sto} (hw : WOk G w) (hs : an G w sto) (hx : Rep G true x v) (h : oN op x T) :
  aG P (Op.unary op v) G w fun r s => T r ∧ s = sto := by
 unfold oN at h
 split at h
 ·have := Rep.dj hx; subst this
  exact aG.pure hw hs (by simp [Op.unary]) .bool ⟨h, rfl⟩
 ·rename_i k n
  obtain ⟨rfl, _⟩ := Rep.aK hx
  obtain ⟨r, h1, h2⟩ := fL (G := G) h
  exact aG.pure hw hs (by simp [Op.unary, Op.intArith]) h1 ⟨h2, rfl⟩
 ·rename_i k n
  obtain ⟨rfl, _⟩ := Rep.aK hx
  exact aG.pure hw hs (v := .int k (bitsOf .xor k (if k.signed then -1 else k.max) n)) (by simp [Op.unary, Op.intBits, bitsOf]) (.int (cR _ _)) ⟨h, rfl⟩
 ·exact h.elim
theorem oD : ∀ {l : List (List aa)} {bs : List UInt8}, iE l = some bs → bs.length = l.length ∧ ∀ (i : Nat) (x : List aa), l[i]? = some x → ∃ n, x = [.int .u8 n] ∧ bs[i]? = some (UInt8.ofNat n.toNat)
 | [], bs, h => by simp only [iE, Option.some.injEq] at h; subst h; exact ⟨rfl, fun i x h => by simp at h⟩
 | y :: l, bs, h => by
  unfold iE at h
  split at h
  ·rename_i h1; cases h1
  ·rename_i n r h1
   cases h1
   obtain ⟨b2, h2, rfl⟩ := Option.map_eq_some_iff.1 h
   obtain ⟨h3, h4⟩ := oD h2
   refine ⟨by simp [h3], fun i x hx => ?_⟩
   cases i with
   | zero => simp only [List.getElem?_cons_zero, Option.some.injEq] at hx; subst hx; exact ⟨n, rfl, rfl⟩
   | succ i => simp only [List.getElem?_cons_succ] at hx ⊢; exact h4 i x hx
  ·cases h
theorem oV (hL : LOk P L) {s t : Nat} (ht : (L t).ty ≠ .other) {x : aa} {v : Value} {T : aa → Prop} {G : Gh} {w : World} {sto : Sto} (hw : WOk G w) (hs : an G w sto) (hx : Rep G true x v) (h : cU L s t x T) :
  aG P (convert s t v) G w fun r s => T r ∧ s = sto := by
 obtain ⟨i, d, z, k⟩ := hL.known ht
 obtain ⟨hso, h⟩ := h
 obtain ⟨i2, d2, z2, k2⟩ := hL.known hso
 have hu := k.und
 have hu2 := k2.und
 split at h
 ·rename_i kk kk' n he
  obtain ⟨rfl, _⟩ := Rep.aK hx
  have hd : d = .int kk := by
   have := k.desc
   rw [he] at this
   cases d <;> simp [bN] at this
   rw [this]
  subst hd
  refine aG.pure hw hs (v := .int kk (kk.wrap n)) ?_ (.int (cR _ _)) ⟨h, rfl⟩
  simp only [convert, Sem.run_bind, run_underlying hu, run_underlying hu2, Result.andThen_ok]
  cases d2 <;> rfl
 ·rename_i s' he
  obtain ⟨hss, hT⟩ := h
  obtain ⟨rfl, hb⟩ := Rep.dG hx
  have h1 := bX k he
  have h2 := bX k2 hss
  subst h1 h2
  refine aG.pure hw hs (v := .string s') ?_ (.str hb) ⟨hT, rfl⟩
  simp [convert, run_underlying hu, run_underlying hu2]
 ·rename_i q full l he
  obtain ⟨⟨e, hse, heu⟩, bs, hbs, hT⟩ := h
  have h1 := bX k he
  obtain ⟨h2, heo⟩ := bK k2 hse
  subst h1 h2
  obtain ⟨i3, d3, z3, k3⟩ := hL.known heo
  have hd3 : d3 = .int .u8 := by
   have := k3.desc
   rw [heu] at this
   cases d3 <;> simp [bN] at this
   rw [this]
  subst hd3
  have hu3 := k3.und
  obtain ⟨s1, s2⟩ := oD hbs
  by_cases hne : l = []
  ·subst hne
   obtain ⟨a, cap, rfl, _⟩ := hx.fE
   have hb0 : bs = [] := List.eq_nil_of_length_eq_zero s1
   subst hb0
   refine aG.pure hw hs (v := .string ⟨#[]⟩) ?_ (.str (Nat.zero_le _)) ⟨hT, rfl⟩
   cases a with
   | none => simp [convert, run_underlying hu, run_underlying hu2, run_underlying hu3, Conv.bytesToString]; rfl
   | some a => exact run_convert_bytes_back w s t e a cap [] hu2 hu3 hu (fun j hj => by simp at hj)
  ·obtain ⟨b, off, cap, c, e', fr, esz, rfl, _, hmax, hq, hF, hfit, hlen, hj⟩ := hx.oz hne
   have hesz : esz = 1 := by
    obtain ⟨y, ys, rfl⟩ := List.exists_cons_of_ne_nil hne
    have h1 := hlen 0 y rfl
    obtain ⟨n, rfl, _⟩ := s2 0 y rfl
    simpa using h1.symm
   subst hesz
   refine aG.pure hw hs (v := .string ⟨bs.toArray⟩) ?_ (.str (by show bs.toArray.size ≤ _; simp only [List.size_toArray]; omega)) ⟨hT, rfl⟩
   rw [← s1]
   refine run_convert_bytes_back w s t e _ cap bs hu2 hu3 hu fun j hjl => ?_
   obtain ⟨n, hxn, hbn⟩ := s2 j (l[j]'(by omega)) (List.getElem?_eq_getElem (by omega))
   have hcell := (hj j 0 _ (.int .u8 n) (List.getElem?_eq_getElem (by omega)) (by rw [hxn]; rfl)).2
   obtain ⟨hv, hf⟩ := Rep.aK hcell.up
   have m1 : IntKind.u8.min = 0 := by kernel_rfl
   have m2 : IntKind.u8.max = 255 := by kernel_rfl
   obtain ⟨f1, f2⟩ := hf
   rw [m1] at f1
   rw [m2] at f2
   have hsz : off + j < c.size := by omega
   rw [aV, cell_of_row w b (off + j) c e' fr (hw.F _ _ hF), Array.getElem?_eq_getElem hsz]
   have e1 : c.getD (off + j * 1 + 0) Go.undef = c[off + j] := by
    rw [Array.getD_eq_getD_getElem?, show off + j * 1 + 0 = off + j by omega, Array.getElem?_eq_getElem hsz]; rfl
   rw [e1] at hv
   rw [hv]
   rw [List.getElem?_eq_getElem hjl] at hbn
   rw [Option.some.inj hbn]
   have : (UInt8.ofNat n.toNat).toNat = n.toNat := by
    rw [UInt8.toNat_ofNat']; exact Nat.mod_eq_of_lt (by omega)
   rw [this, Int.toNat_of_nonneg f1]
 ·exact h.elim
theorem pS (hL : LOk P L) {t : Nat} (ht : (L t).ty ≠ .other) {neg : Bool} {x : aa} {v : Value} {l0 c0 : Nat} {T : Bool → Prop} {G : Gh} {w : World} {sto : Sto} (hw : WOk G w) (hs : an G w sto) (hx : Rep G true x v) (h : lZ L t x T) :
  aG P (binOp (if neg then .neq else .eql) t v (.slice none l0 c0)) G w fun r s => (∃ b, r = .bool (if neg then !b else b) ∧ T b) ∧ s = sto := by
 obtain ⟨i, d, z, k⟩ := hL.known ht
 obtain ⟨⟨e, he⟩, h⟩ := h
 obtain ⟨rfl, _⟩ := bK k he
 have hu := k.und
 obtain ⟨a, len, cap, rfl, hb⟩ : ∃ a len cap, v = .slice a len cap ∧ T a.isNone := by
  split at h
  ·rename_i q full l
   obtain ⟨a, cap, rfl, _⟩ := hx.fE
   refine ⟨a, _, cap, rfl, h _ fun hn => ?_⟩
   by_cases hne : l = []
   ·exact hne
   ·obtain ⟨b, off, cap', c, e', fr, esz, hv, _⟩ := hx.oz hne
    simp only [Value.slice.injEq] at hv
    rw [hv.1] at hn; cases hn
  ·rename_i id g off len
   obtain ⟨ob, cap, esz, a, rfl, hM, hc, _, hcn, ha, ha0⟩ := Rep.dD hx
   refine ⟨a, _, _, rfl, h _ fun hn => ?_⟩
   cases ob with
   | none => have := hcn rfl; omega
   | some b =>
    by_cases hlt : off < cap
    ·rw [ha b rfl hlt] at hn; cases hn
    ·omega
  ·exact h.elim
 have hr : (Op.equal t (.slice a len cap) (.slice none l0 c0)).run P w = .ok a.isNone w := by
  show (Op.equalIn (9999 + 1) t (.slice a len cap) (.slice none l0 c0)).run P w = _
  rw [Op.equalIn]
  cases a <;> simp [run_underlying hu]
 refine aG.pure hw hs (v := .bool (if neg then !a.isNone else a.isNone)) ?_ .bool ⟨⟨_, rfl, hb⟩, rfl⟩
 cases neg
 ·simp only [Bool.false_eq_true, if_false, binOp, Sem.run_bind, hr, Result.andThen_ok, Sem.run_pure]
 ·simp only [if_true, binOp, Sem.run_bind, hr, Result.andThen_ok, Sem.run_pure]
theorem uL {k : IntKind} {a b : Int} {G : Gh} {w : World} {sto : Sto} {T : aa → Sto → Prop} {ts : Array TypeId} {ty : TypeId} (hw : WOk G w) (hs : an G w sto) (ha : fits k a) (hb : fits k b)
  (h : T (.int k (max a b)) sto) : aG P (Builtin.max_ ts ty #[.int k a, .int k b]) G w T :=
 aG.pure hw hs (v := .int k (max a b)) (by simp [Builtin.max_, Builtin.max2]; split <;> omega) (.int (by rw [Int.max_def]; split <;> assumption)) h
theorem uP {k : IntKind} {a b : Int} {G : Gh} {w : World} {sto : Sto} {T : aa → Sto → Prop} {ts : Array TypeId} {ty : TypeId} (hw : WOk G w) (hs : an G w sto) (ha : fits k a) (hb : fits k b)
  (h : T (.int k (min a b)) sto) : aG P (Builtin.min_ ts ty #[.int k a, .int k b]) G w T :=
 aG.pure hw hs (v := .int k (min a b)) (by simp [Builtin.min_, Builtin.min2]; split <;> omega) (.int (by rw [Int.min_def]; split <;> assumption)) h
theorem pO {G : Gh} {e : Nat} {i2 : TypeInfo} {d2 : TypeDesc} {z2 : Value} (k2 : cI P L e i2 d2 z2) (hsz : (L e).zero.length = (L e).sz) (hz : 0 < (L e).sz) (n : Nat) :
  aU G (L e).sz (List.replicate n (L e).zero) (madeCells z2.cells (n * (L e).sz)).toList := by
 have hl : z2.cells.size = (L e).sz := by rw [jd k2, hsz]
 have hget : ∀ (i : Nat) (x : List aa), (List.replicate n (L e).zero)[i]? = some x → x = (L e).zero ∧ i < n := by
  intro i x hx
  have := List.mem_of_getElem? hx
  refine ⟨(List.mem_replicate.1 this).2, by have := cf hx; simpa using this⟩
 refine ⟨by simp [size_madeCells], fun i x hx => by rw [(hget i x hx).1, hsz], fun i j x y hx hy => ?_, fun i j x y hx hy => ?_⟩
 ·obtain ⟨rfl, _⟩ := hget i x hx
  obtain ⟨v, _, hv⟩ := cx _ _ k2.zeros j y hy
  exact (cP (G := G) hv).1
 ·obtain ⟨rfl, hi⟩ := hget i x hx
  obtain ⟨v, hv1, hv⟩ := cx _ _ k2.zeros j y hy
  have hj : j < (L e).sz := by have := cf hy; omega
  have hroom := dB (esz := (L e).sz) hi (Nat.le_refl _)
  have hmod : (i * (L e).sz + j) % (L e).sz = j := by rw [Nat.mul_comm, Nat.mul_add_mod, Nat.mod_eq_of_lt hj]
  have : (madeCells z2.cells (n * (L e).sz)).toList.getD (i * (L e).sz + j) undef = v := by
   have hlt : i * (L e).sz + j < n * (L e).sz := by omega
   have hjz : j < z2.cells.size := by omega
   simp only [Array.getElem?_toList, Array.getElem?_eq_getElem hjz, Option.some.injEq] at hv1
   have e3 : z2.cells[j]! = z2.cells[j] := getElem!_pos z2.cells j hjz
   simp [madeCells, List.getD_eq_getElem?_getD, hlt, hl, hmod, e3, hv1]
  rw [this]; exact (cP (G := G) hv).2.2
theorem kf {d n : Nat} {G : Gh} {w : World} {sto : Sto} {T : aa → Sto → Prop} {l : List (List aa)} {esz : Nat} {c : Array Value} {e : TypeId} {v : Sem Value} (hw : WOk G w) (hs : an G w sto) (hz : 0 < esz)
  (hl : aU G esz l c.toList) (hn : l.length = n) (hbig : n ≤ ao)
  (hrun : v.run P w = .ok (.slice (some ⟨w.heap.size, 0, none⟩) n n) (w.alloc (.cells c e))) (hT : ∀ h, T (.osl d h 0 n) (aF sto d (h, .row esz l))) : aG P v G w T := by
 subst hn
 have hext := eR hw d ⟨some w.heap.size, l.length, esz⟩
 have hcs : c.size = l.length * esz := by have := hl.len; simpa using this
 obtain ⟨a, b, c'⟩ := dV (w' := w.alloc (.cells c e)) (id := d) (o := .row esz l) (hd := ⟨some w.heap.size, l.length, esz⟩) (Kept.alloc _ _ _) hw hs (by simp)
  (fun b hb _ => heap_alloc_old w _ b hb) (fun b hb => by simp only [Option.some.injEq] at hb; subst hb; exact ⟨by simp, .inl (Nat.le_refl _)⟩)
  (rq (xs := c.toList) (bU _ _ _) (show G.F w.heap.size = none from gn hw) (.zero (heap_alloc_new w _)) hcs (Nat.le_refl _) hbig (by unfold ao at hbig; unfold maxLen; omega) hz (by rw [List.take_of_length_le (by simp [hcs])]) (hl.mono hext.toMono))
 exact ⟨_, _, _, _, _, hrun, a, b, c', q7 (bU _ _ _) (Nat.le_refl _) hbig, hT _⟩
theorem uJ (hL : LOk P L) {t d : Nat} (ht : (L t).ty ≠ .other) {x y : aa} {v u : Value} {G : Gh} {w : World} {sto : Sto} {T : aa → Sto → Prop} (hw : WOk G w) (hs : an G w sto)
  (hx : Rep G true x v) (hy : Rep G true y u) (hzero : ∀ e, (L t).ty = .slice e → (L e).zero.length = (L e).sz) (h : iI L d t x y sto T) : aG P (Instr.makeSlice t v u) G w T := by
 obtain ⟨i, dd, z, k⟩ := hL.known ht
 unfold iI at h
 split at h
 ·rename_i e n c he
  obtain ⟨rfl, heo⟩ := bK k he
  obtain ⟨i2, d2, z2, k2⟩ := hL.known heo
  obtain ⟨h0, rfl, hby, hbig, hz, hT⟩ := h
  obtain ⟨rfl, _⟩ := Rep.aK hx
  obtain ⟨rfl, _⟩ := Rep.aK hy
  have hr := run_make (P := P) w t e i2 z2 k.und k2.info k2.zero .i64 .i64 n n h0 (Int.le_refl _) (by rw [k2.bytes, Int.mul_comm]; unfold ao at hby; omega) (by unfold ao at hbig; omega)
  rw [k2.size] at hr
  exact kf hw hs hz (pO k2 (hzero e he) hz n.toNat).nrm (by simp) (by omega) hr hT
 ·exact h.elim
theorem nG (off : Nat) : ∀ (vs : List Value) (k : Nat) (cs : Array Value), off + k + vs.length ≤ cs.size →
  (vs.zipIdx k).foldl (fun cs (x : Value × Nat) => cs.setIfInBounds (off + x.2) x.1) cs = (cs.toList.take (off + k) ++ vs ++ cs.toList.drop (off + k + vs.length)).toArray
 | [], k, cs, _ => by simp
 | v :: vs, k, cs, h => by
  simp only [List.length_cons] at h
  simp only [List.zipIdx_cons, List.foldl_cons]
  rw [nG off vs (k + 1) _ (by simp; omega)]
  congr 1
  have e := list_seg_step cs.toList (off + k) v vs (by simp; omega)
  simpa [Array.toList_setIfInBounds, Nat.add_assoc] using e
structure eF (G : Gh) (cs : List aa) (c : Array Value) : Prop where
 size : c.size = cs.length
 cell : ∀ (j : Nat) (x : aa), cs[j]? = some x → x.ar = true
 rep : ∀ (j : Nat) (x : aa), cs[j]? = some x → Rep G true x (c.getD j Go.undef)
theorem eF.bL {G : Gh} {cs : List aa} {c : Array Value} {off : Nat} {x : aa} {v : Value} (h : eF G cs c) (hx : Rep G true x v) (hwhole : x.aB = true) (hfit : off + (cellsOf x).length ≤ cs.length) :
  eF G (bL cs off (cellsOf x)) (v.cells.zipIdx.foldl (fun cs (x : Value × Nat) => cs.setIfInBounds (off + x.2) x.1) c) := by
 obtain ⟨h1, h2⟩ := fX hx hwhole
 have hc := h.size
 have e : v.cells.zipIdx.foldl (fun cs (x : Value × Nat) => cs.setIfInBounds (off + x.2) x.1) c = (c.toList.take off ++ v.cells.toList ++ c.toList.drop (off + v.cells.toList.length)).toArray := by
  have := nG off v.cells.toList 0 c (by simp; omega)
  rw [← Array.foldl_toList, Array.toList_zipIdx]
  simpa using this
 rw [e]
 have hfit' : off + v.cells.toList.length ≤ c.size := by simp; omega
 have hlen : v.cells.toList.length = (cellsOf x).length := by simpa using h1
 refine ⟨by rw [ec _ _ _ hfit', dU _ _ _ hfit]; exact hc, fun j y hy => ?_, fun j y hy => ?_⟩
 ·rw [dO _ _ _ hfit] at hy
  split at hy
  ·exact (h2 _ _ hy).1
  ·exact h.cell _ _ hy
 ·rw [dO _ _ _ hfit] at hy
  rw [iB _ _ _ hfit']
  split at hy
  ·rename_i hin
   rw [if_pos (by omega)]
   obtain ⟨_, u, hu, hr⟩ := h2 _ _ hy
   simp only [List.getD_eq_getElem?_getD, hu, Option.getD_some]
   exact hr
  ·rename_i hin
   rw [if_neg (by omega)]
   exact h.rep _ _ hy
def dX (G : Gh) : List (Nat × aa) → List (Nat × Value) → Prop
 | [], [] => True
 | (i, x) :: ps, (j, v) :: qs => i = j ∧ Rep G true x v ∧ dX G ps qs
 | _, _ => False
theorem gm {G : Gh} {ti : TI} (place : Nat → Option (Nat × Nat))
  (hp : ∀ i off sz, (match ti.ty with
   | .struct fs => (fs[i]?).map fun f => (f.1, (L f.2).sz)
   | .array _ e => some (i * (L e).sz, (L e).sz)
   | .slice e => some (i * (L e).sz, (L e).sz)
   | _ => none) = some (off, sz) → place i = some (off, sz)) :
  ∀ (ps : List (Nat × aa)) (qs : List (Nat × Value)) (cs res : List aa) (c : Array Value), dX G ps qs → eF G cs c → bP L ti cs ps = some res →
    ∃ c', Instr.fill place c qs = some c' ∧ eF G res c'
 | [], [], cs, res, c, _, hc, h => by simp [bP] at h; subst h; exact ⟨c, rfl, hc⟩
 | [], _ :: _, _, _, _, hq, _, _ => by simp [dX] at hq
 | _ :: _, [], _, _, _, hq, _, _ => by simp [dX] at hq
 | (i, x) :: ps, (j, v) :: qs, cs, res, c, hq, hc, h => by
  obtain ⟨rfl, hx, hq⟩ := hq
  rw [bP] at h
  split at h
  ·rename_i off sz hpl
   split at h
   ·rename_i hcond
    obtain ⟨h1, h2, h3⟩ := hcond
    have hplace := hp i off sz hpl
    obtain ⟨e1, e2⟩ := fX hx h3
    have hsp := hc.bL (off := off) hx h3 (by omega)
    obtain ⟨c', h4, h5⟩ := gm place hp ps qs _ res _ hq hsp h
    refine ⟨c', ?_, h5⟩
    simp only [Instr.fill, hplace]
    rw [if_neg]
    ·exact h4
    ·have := hc.size
     simp; omega
   ·cases h
  ·cases h
theorem vB (G : Gh) {e : Nat} {i2 : TypeInfo} {d2 : TypeDesc} {z2 : Value} (k2 : cI P L e i2 d2 z2) : eF G (L e).zero z2.cells := by
 refine ⟨jd k2, fun j x hx => ?_, fun j x hx => ?_⟩
 ·obtain ⟨v, _, hv⟩ := cx _ _ k2.zeros j x hx
  exact (cP (G := G) hv).1
 ·obtain ⟨v, hv1, hv⟩ := cx _ _ k2.zeros j x hx
  have : z2.cells.getD j Go.undef = v := by
   simp only [Array.getElem?_toList] at hv1
   simp [hv1]
  rw [this]; exact (cP (G := G) hv).2.2.up
theorem mU (hL : LOk P L) {t : Nat} (ht : (L t).ty ≠ .other) {ps : List (Nat × aa)} {qs : Array (Nat × Value)} {G : Gh} {sto : Sto} {T : aa → Sto → Prop}
  (hq : dX G ps qs.toList) (h : (L t).ag = true ∧ ∃ cs, bP L (L t) (L t).zero ps = some cs ∧ T (.agg cs) sto) : ∃ c' r, P.built t qs.toList = some c' ∧ Rep G true r (.agg c') ∧ T r sto := by
 obtain ⟨i, d, z, k⟩ := hL.known ht
 obtain ⟨hag, cs, hf, hT⟩ := h
 have hz := vB G k
 have hu := k.und
 have hd := k.desc
 have hagd := k.agg
 rw [hag] at hagd
 cases d with
 | struct gs =>
  cases hty : (L t).ty <;> rw [hty] at hd <;> simp [bN] at hd
  rename_i fs
  have hsz : ∀ (j o ft : Nat), fs[j]? = some (o, ft) → ∃ f, gs.toList[j]? = some f ∧ f.offset = o ∧ f.type = ft ∧ 0 < (L ft).sz ∧ (L ft).ty ≠ .other := fun j o ft hj => fC fs gs.toList hd j o ft hj
  have hpl : ∃ places, (gs.toList.mapM fun f => (P.info? f.type).map fun i => (f.offset, i.size)) = some places ∧ ∀ (j : Nat) (f : Field), gs.toList[j]? = some f → places[j]? = some (f.offset, (L f.type).sz) := by
   have hlen := fO fs gs.toList hd
   have hall : ∀ f ∈ gs.toList, ∃ i, P.info? f.type = some i ∧ i.size = (L f.type).sz := by
    intro f hfm
    obtain ⟨j, hj, rfl⟩ := List.getElem_of_mem hfm
    have hj' : j < fs.length := by omega
    obtain ⟨g, h1, h2, h3, h4, h5⟩ := hsz j fs[j].1 fs[j].2 (by simp [hj'])
    rw [List.getElem?_eq_getElem hj] at h1
    simp only [Option.some.injEq] at h1
    subst h1
    rw [← h3] at h5
    obtain ⟨i3, d3, z3, k3⟩ := hL.known h5
    exact ⟨i3, k3.info, k3.size⟩
   generalize gs.toList = gl at hall
   clear hlen hsz hd
   induction gl with
   | nil => exact ⟨[], by simp, fun j f h => by simp at h⟩
   | cons g gl ih =>
    obtain ⟨pl, h1, h2⟩ := ih fun f hf => hall f (by simp [hf])
    obtain ⟨i3, h3, h4⟩ := hall g (by simp)
    refine ⟨(g.offset, (L g.type).sz) :: pl, by simp [List.mapM_cons, h1, h3, h4], fun j f hj => ?_⟩
    cases j with
    | zero => simp at hj; subst hj; rfl
    | succ j => simpa using h2 j f (by simpa using hj)
  obtain ⟨places, hp1, hp2⟩ := hpl
  obtain ⟨c', h1, h2⟩ := gm (G := G) (L := L) (ti := L t) (fun x => places.toArray[x]?) (fun j off sz hj => by
   rw [hty] at hj
   simp only at hj
   cases hfj : fs[j]? with
   | none => rw [hfj] at hj; cases hj
   | some p =>
    rw [hfj] at hj
    simp only [Option.map_some, Option.some.injEq, Prod.mk.injEq] at hj
    obtain ⟨f, e1, e2, e3, _⟩ := hsz j p.1 p.2 (by rw [hfj])
    have := hp2 j f e1
    rw [e2, e3] at this
    simp [this, ← hj.1, ← hj.2]) ps qs.toList (L t).zero cs z.cells hq hz hf
  refine ⟨c', _, ?_, .agg h2.size h2.cell h2.rep, hT⟩
  simp only [Program.built, k.info, hu, k.zero, hp1]
  exact h1
 | array n e =>
  cases hty : (L t).ty <;> rw [hty] at hd <;> simp [bN] at hd
  rename_i n' e'
  obtain ⟨⟨rfl, rfl⟩, heo⟩ := hd
  obtain ⟨i2, d2, z2, k2⟩ := hL.known heo
  obtain ⟨c', h1, h2⟩ := gm (G := G) (L := L) (ti := L t) (fun j => some (j * (L e').sz, (L e').sz)) (fun j off sz hj => by rw [hty] at hj; exact hj) ps qs.toList (L t).zero cs z.cells hq hz hf
  refine ⟨c', _, ?_, .agg h2.size h2.cell h2.rep, hT⟩
  simp only [Program.built, k.info, hu, k.zero, k2.info, k2.size]
  exact h1
 | _ => simp [nP] at hagd
theorem si (hL : LOk P L) {t : Nat} (ht : (L t).ty ≠ .other) {ps : List (Nat × aa)} {qs : Array (Nat × Value)} {G : Gh} {w : World} {sto : Sto} {T : aa → Sto → Prop} (hw : WOk G w) (hs : an G w sto)
  (hq : dX G ps qs.toList) (h : (L t).ag = true ∧ ∃ cs, bP L (L t) (L t).zero ps = some cs ∧ T (.agg cs) sto) : aG P (Instr.build t qs) G w T := by
 obtain ⟨c', r, h1, h2, h3⟩ := mU hL ht hq h
 exact aG.pure hw hs (run_build w t qs c' h1) h2 h3
theorem dQ (sz : Nat) : ∀ (n : Nat) (cs : List aa), (chunks sz n cs).length = n
 | 0, _ => rfl
 | n + 1, cs => by simp [chunks, dQ sz n]
theorem mV (sz : Nat) : ∀ (n : Nat) (cs : List aa) (i : Nat) (x : List aa), (chunks sz n cs)[i]? = some x → x = (cs.drop (i * sz)).take sz
 | 0, _, i, x, h => by simp [chunks] at h
 | n + 1, cs, i, x, h => by
  cases i with
  | zero => simp [chunks] at h; simp [h]
  | succ i =>
   simp only [chunks, List.getElem?_cons_succ] at h
   have := mV sz n _ i x h
   rw [this, List.drop_drop]
   congr 2
   rw [Nat.add_mul, Nat.one_mul, Nat.add_comm]
theorem gT {α : Type} (z : List α) (n k : Nat) (h : k < n * z.length) : ((List.replicate n z).flatten)[k]? = z[k % z.length]? := by
 induction n generalizing k with
 | zero => simp at h
 | succ n ih =>
  simp only [List.replicate_succ, List.flatten_cons, List.getElem?_append]
  by_cases hk : k < z.length
  ·rw [if_pos hk, Nat.mod_eq_of_lt hk]
  ·rw [if_neg hk, ih (k - z.length) (by rw [Nat.add_mul] at h; omega)]
   congr 1
   rw [← Nat.mod_eq_sub_mod (by omega)]
theorem kS (hL : LOk P L) {t d n : Nat} (ht : (L t).ty ≠ .other) {ps : List (Nat × aa)} {qs : Array (Nat × Value)} {G : Gh} {w : World} {sto : Sto} {T : aa → Sto → Prop} (hw : WOk G w) (hs : an G w sto)
  (hq : dX G ps qs.toList) (hzero : ∀ e, (L t).ty = .slice e → (L e).zero.length = (L e).sz) (h : bF L d t n ps sto T) : aG P (Instr.buildSlice t n qs) G w T := by
 obtain ⟨i, dd, z, k⟩ := hL.known ht
 unfold bF at h
 split at h
 ·rename_i e he
  obtain ⟨rfl, heo⟩ := bK k he
  obtain ⟨i2, d2, z2, k2⟩ := hL.known heo
  obtain ⟨hz, hsm, cs, hf, hfz, hT⟩ := h
  have hu := k.und
  have hzl := hzero e he
  have hrow := pO (G := G) k2 hzl hz n
  have hc0 : eF G (List.replicate n (L e).zero).flatten (madeCells z2.cells (n * (L e).sz)) := by
   have hget : ∀ (j : Nat) (x : aa), (List.replicate n (L e).zero).flatten[j]? = some x → ∃ v, z2.cells.toList[j % (L e).sz]? = some v ∧ lH x v = true ∧ j < n * (L e).sz := by
    intro j x hx
    have hj : j < n * (L e).zero.length := by have := cf hx; simpa using this
    rw [gT _ _ _ hj, hzl] at hx
    obtain ⟨v, h1, h2⟩ := cx _ _ k2.zeros _ x hx
    exact ⟨v, h1, h2, by rw [← hzl]; exact hj⟩
   refine ⟨by simp [size_madeCells, hzl], fun j x hx => ?_, fun j x hx => ?_⟩
   ·obtain ⟨v, _, h2, _⟩ := hget j x hx
    exact (cP (G := G) h2).1
   ·obtain ⟨v, h1, h2, h3⟩ := hget j x hx
    have hl : z2.cells.size = (L e).sz := by rw [jd k2, hzl]
    have hm : j % (L e).sz < z2.cells.size := by rw [hl]; exact Nat.mod_lt _ hz
    have : (madeCells z2.cells (n * (L e).sz)).getD j Go.undef = v := by
     simp only [Array.getElem?_toList, Array.getElem?_eq_getElem hm, Option.some.injEq] at h1
     have e3 : z2.cells[j % (L e).sz]! = z2.cells[j % (L e).sz] := getElem!_pos z2.cells (j % (L e).sz) hm
     simp [madeCells, h3, hl, e3, h1]
    rw [this]; exact (cP (G := G) h2).2.2.up
  obtain ⟨c', h1, h2⟩ := gm (G := G) (L := L) (ti := L t) (fun j => some (j * (L e).sz, (L e).sz)) (fun j off sz hj => by rw [he] at hj; exact hj) ps qs.toList _ cs _ hq hc0 hf
  have hcl : cs.length = n * (L e).sz := by
   have a1 := h2.size
   have : ∀ (ps : List (Nat × aa)) (cs res : List aa), bP L (L t) cs ps = some res → res.length = cs.length := by
    intro ps
    induction ps with
    | nil => intro cs res h; simp [bP] at h; rw [h]
    | cons p ps ih =>
     intro cs res h
     rw [bP] at h
     split at h
     ·split at h
      ·rename_i hc
       rw [ih _ _ h, dU _ _ _ (by omega)]
      ·cases h
     ·cases h
   rw [this _ _ _ hf]
   simp [hzl]
  have hrr : aU G (L e).sz (chunks (L e).sz n cs) c'.toList := by
   have hx : ∀ (i : Nat) (x : List aa), (chunks (L e).sz n cs)[i]? = some x → x = (cs.drop (i * (L e).sz)).take (L e).sz ∧ i * (L e).sz + (L e).sz ≤ cs.length := by
    intro i x h
    have hi := cf h
    rw [dQ] at hi
    exact ⟨mV _ _ _ _ _ h, by rw [hcl]; exact dB hi (Nat.le_refl _)⟩
   have hy : ∀ (i j : Nat) (x : List aa) (y : aa), (chunks (L e).sz n cs)[i]? = some x → x[j]? = some y → cs[i * (L e).sz + j]? = some y := by
    intro i j x y h hy
    obtain ⟨rfl, _⟩ := hx i x h
    rw [List.getElem?_take] at hy
    split at hy
    ·simpa using hy
    ·cases hy
   refine ⟨by simp [dQ, h2.size, hcl], fun i x h => ?_, fun i j x y h hj => h2.cell _ _ (hy i j x y h hj), fun i j x y h hj => ?_⟩
   ·obtain ⟨rfl, h3⟩ := hx i x h; simp; omega
   ·have h4 := hy i j x y h hj
    have h5 := (h2.rep _ _ h4).down (List.all_eq_true.1 hfz y (List.mem_of_getElem? h4))
    simpa [List.getD_eq_getElem?_getD] using h5
  refine kf (c := c') (e := e) hw hs hz hrr.nrm (by simp [dQ]) (by
   have : n * 1 ≤ n * (L e).sz := Nat.mul_le_mul_left _ hz
   unfold ao; omega) ?_ hT
  have hle : ¬ (n * (L e).sz > 2 ^ 24) := by omega
  have h1' : Instr.fill (fun j => some (j * (L e).sz, (L e).sz)) (Array.map (fun x => z2.cells[x % z2.cells.size]!) (Array.range (n * (L e).sz))) qs.toList = some c' := h1
  by_cases h0 : n * (L e).sz = 0
  ·have hn0 : n = 0 := by
    rcases Nat.mul_eq_zero.1 h0 with h | h
    ·exact h
    ·omega
   subst hn0
   have e0 : ∀ f : Nat → Value, Array.map f (Array.range 0) = #[] := by intro f; simp [Array.range_zero']
   simp only [Nat.zero_mul, e0] at h1'
   simp only [Instr.buildSlice, Sem.run_bind, run_underlying hu, Result.andThen_ok, aL k2, Nat.zero_mul, if_true, e0, h1', newRow]
   rfl
  ·simp only [Instr.buildSlice, Sem.run_bind, run_underlying hu, Result.andThen_ok, aL k2, if_neg hle, if_neg h0, Sem.run_pure, zeroValue, typeInfo, run_program, k2.info, k2.zero, h1', newRow]
   rfl
 ·exact h.elim
end Go.Rad
namespace Go.Rad
open Go
variable {P : Program} {L : Lay}
def gY (G : Gh) : Option aa → Option Value → Prop
 | none, none => True
 | some x, some v => Rep G true x v
 | _, _ => False
theorem wZ {x : aa} {v : Value} {G : Gh} {w : World} {n : Nat} {code : BoundsCode} {Q : Nat → Prop} {df : Nat} (hx : Rep G true x v) (h : aX (some x) df Q) :
  ∃ k m, v = .int k m ∧ 0 ≤ m ∧ Q m.toNat ∧ (m.toNat ≤ n → (Instr.sliceBound v n code).run P w = .ok m.toNat w) := by
 unfold aX at h
 split at h
 ·contradiction
 ·rename_i k m heq
  simp only [Option.some.injEq] at heq
  subst heq
  obtain ⟨rfl, _⟩ := Rep.aK hx
  refine ⟨k, m, rfl, h.1, h.2, fun hn => ?_⟩
  simp only [Instr.sliceBound, asIntOf, Sem.run_bind, Sem.run_pure, Result.andThen_ok]
  rw [if_pos ⟨h.1, by omega⟩]
  rfl
 ·exact h.elim
theorem jy {lo hi mx : Option aa} {vlo vhi vmx : Option Value} {G : Gh} {w : World} {isSlice : Bool} {len cap dm : Nat} {Q : Nat → Nat → Nat → Prop} (hlo : gY G lo vlo) (hhi : gY G hi vhi) (hmx : gY G mx vmx)
  (hmh : mx.isSome = true → hi.isSome = true)
  (h : aX lo 0 fun l => aX hi len fun hh => aX mx dm fun m => Q l hh m) (hQ : ∀ l h m, Q l h m → l ≤ h ∧ (mx = none → h ≤ cap) ∧ (mx.isSome = true → h ≤ m ∧ m ≤ cap)) :
  ∃ l h m, Q l h m ∧ (mx = none → m = dm) ∧ (hi = none → h = len) ∧ (Instr.sliceBounds isSlice len cap vlo vhi vmx).run P w = .ok (l, h, if mx.isSome then m else cap) w := by
 have opt : ∀ (x : Option aa) (v : Option Value) (df : Nat) (Q : Nat → Prop), gY G x v → aX x df Q → ∃ n, Q n ∧ (x = none → n = df ∧ v = none) ∧ (x.isSome = true → ∃ u, v = some u ∧ ∀ c code, n ≤ c → (Instr.sliceBound u c code).run P w = .ok n w) := by
  intro x v df Q hx hi
  cases x with
  | none =>
   cases v with
   | none => exact ⟨df, hi, fun _ => ⟨rfl, rfl⟩, fun h => by cases h⟩
   | some u => exact hx.elim
  | some y =>
   cases v with
   | none => exact hx.elim
   | some u =>
    obtain ⟨k, m, rfl, h0, hq, _⟩ := wZ (P := P) (w := w) (n := 0) (code := .index) hx hi
    refine ⟨m.toNat, hq, fun h => (by cases h), fun _ => ⟨_, rfl, fun c code hn => ?_⟩⟩
    simp only [Instr.sliceBound, asIntOf, Sem.run_bind, Sem.run_pure, Result.andThen_ok]
    rw [if_pos ⟨h0, by omega⟩]
    rfl
 obtain ⟨l, h1, l1, l2⟩ := opt lo vlo _ _ hlo h
 obtain ⟨hh, h2, k1, k2⟩ := opt hi vhi _ _ hhi h1
 obtain ⟨m, h3, m1, m2⟩ := opt mx vmx _ _ hmx h2
 obtain ⟨q1, q2, q3⟩ := hQ _ _ _ h3
 refine ⟨l, hh, m, h3, fun e => (m1 e).1, fun e => (k1 e).1, ?_⟩
 cases mx with
 | none =>
  obtain ⟨_, rfl⟩ := m1 rfl
  have hc := q2 rfl
  cases hi with
  | none =>
   obtain ⟨rfl, rfl⟩ := k1 rfl
   cases lo with
   | none => obtain ⟨rfl, rfl⟩ := l1 rfl; simp [Instr.sliceBounds]
   | some x => obtain ⟨u, rfl, hu⟩ := l2 rfl; simp [Instr.sliceBounds, hu _ _ q1]
  | some y =>
   obtain ⟨u2, rfl, hu2⟩ := k2 rfl
   cases lo with
   | none => obtain ⟨rfl, rfl⟩ := l1 rfl; simp [Instr.sliceBounds, hu2 _ _ hc]
   | some x => obtain ⟨u, rfl, hu⟩ := l2 rfl; simp [Instr.sliceBounds, hu _ _ q1, hu2 _ _ hc]
 | some z =>
  obtain ⟨u3, rfl, hu3⟩ := m2 rfl
  obtain ⟨c1, c2⟩ := q3 rfl
  cases hi with
  | none => have := hmh rfl; cases this
  | some y =>
   obtain ⟨u2, rfl, hu2⟩ := k2 rfl
   cases lo with
   | none => obtain ⟨rfl, rfl⟩ := l1 rfl; simp [Instr.sliceBounds, hu2 _ _ c1, hu3 _ _ c2]
   | some x => obtain ⟨u, rfl, hu⟩ := l2 rfl; simp [Instr.sliceBounds, hu _ _ q1, hu2 _ _ c1, hu3 _ _ c2]
theorem fG {α : Type} (es : List α) (l h i : Nat) (x : α) (hx : ((es.take h).drop l)[i]? = some x) : es[l + i]? = some x ∧ l + i < h := by
 rw [List.getElem?_drop, List.getElem?_take] at hx
 split at hx
 ·exact ⟨hx, by assumption⟩
 ·cases hx
theorem tD (hL : LOk P L) {t : Nat} (ht : (L t).ty ≠ .other) {x : aa} {v : Value} {lo hi mx : Option aa} {vlo vhi vmx : Option Value} {G : Gh} {w : World} {sto : Sto} {T : aa → Prop} (hw : WOk G w) (hs : an G w sto)
  (hx : Rep G true x v) (hlo : gY G lo vlo) (hhi : gY G hi vhi) (hmx : gY G mx vmx) (hmh : mx.isSome = true → hi.isSome = true) (h : bY L t x lo hi mx sto T) :
  aG P (Instr.sliceAt t v vlo vhi vmx) G w fun r s => T r ∧ s = sto := by
 obtain ⟨i, d, z, k⟩ := hL.known ht
 have hu := k.und
 unfold bY at h
 split at h
 ·rename_i s he
  have := bX k he
  subst this
  obtain ⟨rfl, hb⟩ := Rep.dG hx
  obtain ⟨hm, h⟩ := h
  have hmn : mx = none := by cases mx <;> simp at hm; rfl
  subst hmn
  cases vmx with
  | some _ => exact hmx.elim
  | none =>
   obtain ⟨l, hh, m, ⟨⟨h1, h2⟩, h3⟩, _, _, hr⟩ := jy (P := P) (w := w) (isSlice := false) (len := s.size) (cap := s.size) (dm := s.size) (mx := none) (vmx := none) (Q := fun l h _ => (l ≤ h ∧ h ≤ s.size) ∧ T (.str (s.extract l h))) hlo hhi trivial (fun h => by cases h) (by simpa [aX] using h)
    (fun l h m q => ⟨q.1.1, fun _ => q.1.2, fun h => by cases h⟩)
   refine aG.pure hw hs (v := .string (s.extract l hh)) ?_ (.str (by rw [ByteArray.size_extract]; omega)) ⟨h3, rfl⟩
   simp only [Option.isSome_none, Bool.false_eq_true, if_false] at hr
   simp [Instr.sliceAt, Instr.slice, run_underlying hu, hr]
 ·rename_i e q full es he
  obtain ⟨rfl, heo⟩ := bK k he
  obtain ⟨i2, d2, z2, k2⟩ := hL.known heo
  obtain ⟨a, cap, rfl, hcap, hbig, hfull⟩ := hx.fE
  obtain ⟨l, hh, m, ⟨⟨h1, h2, h3⟩, hst, h4⟩, hm1, hh1, hr⟩ := jy (P := P) (w := w) (isSlice := true) (len := es.length) (cap := cap) (dm := es.length) (Q := fun l h m => (l ≤ h ∧ h ≤ m ∧ m ≤ es.length) ∧ (l = 0 ∨ ∀ y ∈ es, y.length = (L e).sz) ∧ T (.sl q (eZ mx full h m es.length) ((es.take h).drop l))) hlo hhi hmx hmh h
   (fun l h m q => ⟨q.1.1, fun _ => by omega, fun _ => by omega⟩)
  have hlen : ((es.take hh).drop l).length = hh - l := by simp; omega
  have hrun : (Instr.sliceAt t (.slice a es.length cap) vlo vhi vmx).run P w = .ok (.slice (if (if mx.isSome then m else cap) = l then a else a.map (·.add (l * (L e).sz))) (hh - l) ((if mx.isSome then m else cap) - l)) w := by
   simp [Instr.sliceAt, Instr.slice, run_underlying hu, hr, aL k2]
  refine aG.pure hw hs hrun ?_ ⟨h4, rfl⟩
  have hfc : eZ mx full hh m es.length = true → (if mx.isSome then m else cap) - l = hh - l := by
   intro hf
   cases mx with
   | none =>
    simp only [eZ, Bool.and_eq_true, decide_eq_true_eq] at hf
    have := hfull hf.1
    simp only [Option.isSome_none, Bool.false_eq_true, if_false]
    omega
   | some _ =>
    simp only [eZ, decide_eq_true_eq] at hf
    simp only [Option.isSome_some, if_true]
    omega
  by_cases hne : (es.take hh).drop l = []
  ·rw [hne]
   have h0 : hh - l = 0 := by rw [← hlen, hne]; rfl
   rw [h0]
   exact .slnil fun hf => by rw [hfc hf, h0]
  ·have hlt : l < hh := by
    rcases Nat.lt_or_ge l hh with h | h
    ·exact h
    ·exfalso; apply hne; apply List.eq_nil_of_length_eq_zero; omega
   have hes : es ≠ [] := by rintro rfl; simp at hne
   obtain ⟨b, off, cap', c, e', fr, esz, hv, hc', _, hq, hF, hfit, hle, hj⟩ := hx.oz hes
   simp only [Value.slice.injEq] at hv
   obtain ⟨rfl, _, rfl⟩ := hv
   have hcl : (if mx.isSome then m else cap) ≠ l := by
    cases mx <;> simp <;> omega
   rw [if_neg hcl]
   have hee : l * (L e).sz = l * esz := by
    rcases hst with rfl | hst
    ·simp
    ·obtain ⟨y, ys, rfl⟩ := List.exists_cons_of_ne_nil hes
     have a1 := hst y (by simp)
     have a2 := hle 0 y rfl
     rw [← a1, a2]
   simp only [Option.map_some, aV, hee]
   have hroom : hh * esz ≤ es.length * esz := Nat.mul_le_mul_right _ (by omega)
   have hs1 : (hh - l) * esz = hh * esz - l * esz := Nat.sub_mul _ _ _
   have hs2 : l * esz ≤ hh * esz := Nat.mul_le_mul_right _ (by omega)
   have hrep := Rep.sl (G := G) (o := true) (q := q) (full := eZ mx full hh m es.length) (l := (es.take hh).drop l) (cap := (if mx.isSome then m else cap) - l) (b := b) (off := off + l * esz) (c := c) (e := e') (fr := fr) (esz := esz)
    (by rw [hlen]; cases mx <;> simp <;> omega) (fun hf => by rw [hlen]; exact hfc hf) (by rw [hlen]; omega) hq hF (by rw [hlen]; omega)
    (fun i x hx => hle _ x (fG _ _ _ _ _ hx).1) (fun i j x y hx hy => (hj _ j x y (fG _ _ _ _ _ hx).1 hy).1) (fun i j x y hx hy => by
     have := (hj _ j x y (fG _ _ _ _ _ hx).1 hy).2
     rwa [Nat.add_mul, ← Nat.add_assoc] at this)
   rwa [hlen] at hrep
 ·rename_i e id g off len he
  obtain ⟨rfl, heo⟩ := bK k he
  obtain ⟨i2, d2, z2, k2⟩ := hL.known heo
  obtain ⟨hm, ⟨g', l0, hget, rfl⟩, h⟩ := h
  have hmn : mx = none := by cases mx <;> simp at hm; rfl
  subst hmn
  cases vmx with
  | some _ => exact hmx.elim
  | none =>
   obtain ⟨ob, cap, esz, a, rfl, hM, hcap, hbig, hcn, ha, ha0⟩ := Rep.dD hx
   obtain ⟨ob', cap', hM', _⟩ := hs.obj _ _ _ hget
   rw [hM] at hM'
   simp only [Option.some.injEq, Hd.mk.injEq] at hM'
   obtain ⟨rfl, rfl, rfl⟩ := hM'
   obtain ⟨l, hh, m, ⟨⟨h1, h2⟩, h3⟩, _, _, hr⟩ := jy (P := P) (w := w) (isSlice := true) (len := len) (cap := cap - off) (dm := len) (mx := none) (vmx := none) (Q := fun l h _ => (l ≤ h ∧ h ≤ len) ∧ T (.osl id g' (off + l) (h - l))) hlo hhi trivial (fun h => by cases h) (by simpa [aX] using h)
    (fun l h m q => ⟨q.1.1, fun _ => by omega, fun h => by cases h⟩)
   simp only [Option.isSome_none, Bool.false_eq_true, if_false] at hr
   refine aG.pure hw hs (v := .slice (if cap - off = l then a else a.map (·.add (l * (L e).sz))) (hh - l) (cap - off - l)) ?_ ?_ ⟨h3, rfl⟩
   ·simp [Instr.sliceAt, Instr.slice, run_underlying hu, hr, aL k2]
   ·have hc : cap - off - l = cap - (off + l) := by omega
    rw [hc]
    refine .osl hM (by omega) (by omega) hcn (fun b hb hlt => ?_) (fun b hb h0 => ?_)
    ·rw [if_neg (by omega), ha b hb (by omega)]
     simp only [Option.map_some, aV, Nat.add_mul]
    ·have e1 : off = 0 := by omega
     have e2 : l = 0 := by omega
     subst e1 e2
     rw [ha0 b hb rfl]
     split
     ·rfl
     ·simp [aV]
 ·exact h.elim
end Go.Rad
namespace Go.Rad
open Go Go.MapKept
variable {P : Program} {L : Lay}
def aM {κ : Type} (kv : κ → Value) (G : Gh) : List (κ × aa) → List MapEntry → Prop
 | [], [] => True
 | x :: xs, m :: ms => m.key = kv x.1 ∧ x.2.ar = true ∧ Rep G false x.2 m.val ∧ aM kv G xs ms
 | _, _ => False
abbrev qk (G : Gh) : List (ByteArray × aa) → List MapEntry → Prop := aM Value.string G
abbrev mO (G : Gh) : List (Int × aa) → List MapEntry → Prop := aM (Value.int .i64) G
section
variable {κ : Type} {kv : κ → Value}
theorem qB {G : Gh} : ∀ (es : List (κ × aa)) (ms : List MapEntry), ms.length = es.length →
  (∀ (j : Nat) (x : κ × aa), es[j]? = some x → ∃ m : MapEntry, ms[j]? = some m ∧ m.key = kv x.1 ∧ x.2.ar = true ∧ Rep G false x.2 m.val) → aM kv G es ms
 | [], [], _, _ => trivial
 | [], _ :: _, h, _ => by simp at h
 | _ :: _, [], h, _ => by simp at h
 | x :: xs, m :: ms, h, hj => by
  obtain ⟨m', h1, h2, h3, h4⟩ := hj 0 x rfl
  simp only [List.getElem?_cons_zero, Option.some.injEq] at h1
  subst h1
  exact ⟨h2, h3, h4, qB xs ms (by simpa using h) fun j y hy => by simpa using hj (j + 1) y (by simpa using hy)⟩
theorem ig {G : Gh} : ∀ {es : List (κ × aa)} {ms : List MapEntry}, aM kv G es ms → ms.length = es.length
 | [], [], _ => rfl
 | [], _ :: _, h => by simp [aM] at h
 | _ :: _, [], h => by simp [aM] at h
 | _ :: _, _ :: _, h => by simp [ig h.2.2.2]
theorem ny {G : Gh} : ∀ {es : List (κ × aa)} {ms : List MapEntry}, aM kv G es ms →
  ∀ (j : Nat) (x : κ × aa), es[j]? = some x → ∃ m : MapEntry, ms[j]? = some m ∧ m.key = kv x.1 ∧ x.2.ar = true ∧ Rep G false x.2 m.val
 | [], [], _, j, x, hx => by simp at hx
 | [], _ :: _, h, _, _, _ => by simp [aM] at h
 | _ :: _, [], h, _, _, _ => by simp [aM] at h
 | _ :: _, m :: _, h, 0, x, hx => by simp at hx; subst hx; exact ⟨m, rfl, h.1, h.2.1, h.2.2.1⟩
 | _ :: _, _ :: _, h, j + 1, x, hx => by simpa using ny h.2.2.2 j x (by simpa using hx)
end
theorem bytes_beq (a b : ByteArray) : (a == b) = decide (a = b) := by rw [beq_toListBytes, jW]
theorem dL {κ : Type} [DecidableEq κ] {kv : κ → Value} {d : TypeDesc} (hsm : ∀ a b, Instr.sameNow d (kv a) (kv b) = some (decide (a = b))) {G : Gh} (key : κ) : ∀ (es : List (κ × aa)) (ms : List MapEntry) (i : Nat), aM kv G es ms →
  (er es key = none ∧ Instr.findNow d (kv key) ms i = some none ∧ (∀ v, eQ es key v = es ++ [(key, v)]) ∧ j7 es key = es) ∨
  ∃ j m v, Instr.findNow d (kv key) ms i = some (some (i + j, m.val)) ∧ ms[j]? = some m ∧ m.key = kv key ∧ er es key = some v ∧ Rep G false v m.val ∧ v.ar = true ∧
    (∀ v', eQ es key v' = es.set j (key, v')) ∧ j7 es key = es.eraseIdx j ∧ j < es.length
 | [], [], i, _ => .inl ⟨rfl, rfl, fun _ => rfl, rfl⟩
 | [], _ :: _, _, h => by simp [aM] at h
 | _ :: _, [], _, h => by simp [aM] at h
 | x :: xs, m :: ms, i, h => by
  obtain ⟨h1, h2, h3, h4⟩ := h
  by_cases hk : x.1 = key
  ·subst hk
   right
   refine ⟨0, m, x.2, ?_, rfl, h1, by simp [er], h3, h2, fun v' => by simp [eQ], by simp [j7], by simp⟩
   simp [Instr.findNow, h1, hsm]
  ·have hne : ¬ (key = x.1) := fun e => hk e.symm
   rcases dL hsm key xs ms (i + 1) h4 with ⟨a, b, c, d⟩ | ⟨j, m', v, a, b, c, d, e, f, g, g2, g3⟩
   ·left
    refine ⟨by simpa [er, hk] using a, ?_, fun v => by simp [eQ, hk, c], by simp [j7, hk, d]⟩
    simp [Instr.findNow, h1, hne, b, hsm]
   ·right
    refine ⟨j + 1, m', v, ?_, by simpa using b, c, by simpa [er, hk] using d, e, f, fun v' => by simp [eQ, hk, g], by simp [j7, hk, g2], by simpa using g3⟩
    simp only [Instr.findNow, h1, hsm, decide_eq_false hne]
    rw [a]
    simp; omega
theorem oi (a b : ByteArray) : Instr.sameNow .string (.string a) (.string b) = some (decide (a = b)) := by simp [Instr.sameNow, bytes_beq]
theorem tt (a b : Int) : Instr.sameNow (.int .i64) (.int .i64 a) (.int .i64 b) = some (decide (a = b)) := by
 simp only [Instr.sameNow, if_true]
 by_cases h : a = b
 ·subst h; simp
 ·rw [decide_eq_false h]; simp [h]
theorem qR {G : Gh} {w : World} {sto : Sto} {id g : Nat} {es : List (ByteArray × aa)} (hs : an G w sto) (hget : ak sto id = some (g, .mp es)) {b cap e' : Nat} (hM : G.M id g = some ⟨some b, cap, e'⟩) :
  G.F b = none ∧ ∃ me clock, w.heap[b]? = some (.map me clock) ∧ es.length ≤ ao ∧ qk G es me.toList := by
 obtain ⟨h1, me, cl, h2, h3, h4, h5⟩ := zX (hs.obj _ _ _ hget) hM
 exact ⟨h1, me, cl, h2, h4, qB es me.toList (by simpa using h3) fun j x hx => by
  obtain ⟨m, a, b⟩ := h5 j x hx
  exact ⟨m, by simpa using a, b⟩⟩
theorem pP {G : Gh} {w : World} {id g b cap esz : Nat} {es : List (ByteArray × aa)} {me : Array MapEntry} {cl : Nat} (hM : G.M id g = some ⟨some b, cap, esz⟩) (hF : G.F b = none) (hb : w.heap[b]? = some (.map me cl))
  (hbig : es.length ≤ ao) (h : qk G es me.toList) : bW G w id g (.mp es) :=
 ⟨b, cap, esz, hM, hF, me, cl, hb, by simpa using ig h, hbig, fun j x hx => by
  obtain ⟨m, a, b⟩ := ny h j x hx
  exact ⟨m, by simpa using a, b⟩⟩
theorem sW {G : Gh} {w : World} {sto : Sto} {id g : Nat} {es : List (Int × aa)} (hs : an G w sto) (hget : ak sto id = some (g, .mpi es)) {b cap e' : Nat} (hM : G.M id g = some ⟨some b, cap, e'⟩) :
  G.F b = none ∧ ∃ me clock, w.heap[b]? = some (.map me clock) ∧ es.length ≤ ao ∧ mO G es me.toList := by
 obtain ⟨h1, me, cl, h2, h3, h4, h5⟩ := wb (hs.obj _ _ _ hget) hM
 exact ⟨h1, me, cl, h2, h4, qB es me.toList (by simpa using h3) fun j x hx => by
  obtain ⟨m, a, b⟩ := h5 j x hx
  exact ⟨m, by simpa using a, b⟩⟩
theorem uK {G : Gh} {w : World} {id g b cap esz : Nat} {es : List (Int × aa)} {me : Array MapEntry} {cl : Nat} (hM : G.M id g = some ⟨some b, cap, esz⟩) (hF : G.F b = none) (hb : w.heap[b]? = some (.map me cl))
  (hbig : es.length ≤ ao) (h : mO G es me.toList) : bW G w id g (.mpi es) :=
 ⟨b, cap, esz, hM, hF, me, cl, hb, by simpa using ig h, hbig, fun j x hx => by
  obtain ⟨m, a, b⟩ := ny h j x hx
  exact ⟨m, by simpa using a, b⟩⟩
theorem py {e : Nat} {i2 : TypeInfo} {d2 : TypeDesc} {z2 : Value} (k2 : cI P L e i2 d2 z2) (hag : (L e).ag = false) (G : Gh) (w : World) :
  (zeroValue e).run P w = .ok z2 w ∧ Rep G true ((L e).zero.headD .undef) z2 := by
 refine ⟨by simp [zeroValue, typeInfo, k2.info, k2.zero], ?_⟩
 have h := k2.one
 rw [hag] at h
 simp only [Bool.false_eq_true, false_or] at h
 unfold Al at h
 split at h
 ·rename_i x hx
  rw [hx]
  exact (cP (G := G) h).2.2.up
 ·cases h
theorem qQ (hL : LOk P L) {t : Nat} {ok : Bool} (ht : (L t).ty ≠ .other) {m k : aa} {v u : Value} {G : Gh} {w : World} {sto : Sto} {T : aa → Prop} (hw : WOk G w) (hs : an G w sto) (hm : Rep G true m v) (hk : Rep G true k u)
  (h : cO L t m k ok sto T) : aG P (Instr.lookup t v u ok) G w fun r s => T r ∧ s = sto := by
 obtain ⟨i, d, z, kn⟩ := hL.known ht
 unfold cO at h
 split at h
 ·rename_i kt et he
  obtain ⟨rfl, hko, heo⟩ := ia kn he
  obtain ⟨i1, d1, z1, k1⟩ := hL.known hko
  obtain ⟨i2, d2, z2, k2⟩ := hL.known heo
  split at h
  ·rename_i id g key
   obtain ⟨hstr, _, hag, h⟩ := h
   have := bX k1 hstr
   subst this
   obtain ⟨b, cap, esz, hM, rfl⟩ := Rep.fT hm
   obtain ⟨rfl, _⟩ := Rep.dG hk
   split at h
   case h_2 => exact h.elim
   rename_i g' es hget
   obtain ⟨rfl, hT⟩ := h
   obtain ⟨_, me, cl, hb, hbig, hents⟩ := qR hs hget hM
   obtain ⟨hz1, hz2⟩ := py k2 hag G w
   have hck := fun e => run_checkKey (P := P) (w := w) k1.und (k := .string key) trivial e 9999
   rcases dL oi key es me.toList 0 hents with ⟨a, b', _⟩ | ⟨j, mm, vv, a, _, _, hf, hr, _⟩
   ·rw [a] at hT
    have hfk := run_findKey (P := P) (w := w) (l := me.toList) k1.und b'
    refine aG.pure hw hs (v := if ok then .tuple #[z2, .bool false] else z2) (r := if ok then .tup [(L et).zero.headD .undef, .bool false] else (L et).zero.headD .undef) ?_ ?_ ⟨hT, rfl⟩
    ·simp only [Instr.lookup, Sem.run_bind, run_underlying kn.und, Result.andThen_ok, run_getObj_map hb, Sem.run_pure, hck, hfk, hz1]
    ·cases ok
     ·exact hz2
     ·refine .tup rfl fun j x hx => ?_
      match j, hx with
      | 0, hx => simp only [List.getElem?_cons_zero, Option.some.injEq] at hx; subst hx; exact hz2
      | 1, hx => simp at hx; subst hx; exact .bool
   ·rw [hf] at hT
    have hfk := run_findKey (P := P) (w := w) (l := me.toList) k1.und a
    refine aG.pure hw hs (v := if ok then .tuple #[mm.val, .bool true] else mm.val) (r := if ok then .tup [vv, .bool true] else vv) ?_ ?_ ⟨hT, rfl⟩
    ·simp only [Instr.lookup, Sem.run_bind, run_underlying kn.und, Result.andThen_ok, run_getObj_map hb, Sem.run_pure, hck, hfk]
    ·cases ok
     ·exact hr.up
     ·refine .tup rfl fun j x hx => ?_
      match j, hx with
      | 0, hx => simp at hx; subst hx; exact hr.up
      | 1, hx => simp at hx; subst hx; exact .bool
  ·rename_i id g key
   obtain ⟨hstr, _, hag, h⟩ := h
   have := so k1 hstr
   subst this
   obtain ⟨b, cap, esz, hM, rfl⟩ := Rep.fT hm
   obtain ⟨rfl, _⟩ := Rep.aK hk
   split at h
   case h_2 => exact h.elim
   rename_i g' es hget
   obtain ⟨rfl, hT⟩ := h
   obtain ⟨_, me, cl, hb, hbig, hents⟩ := sW hs hget hM
   obtain ⟨hz1, hz2⟩ := py k2 hag G w
   have hck := fun e => run_checkKey (P := P) (w := w) k1.und (k := .int .i64 key) (by simp [IsKey]) e 9999
   rcases dL tt key es me.toList 0 hents with ⟨a, b', _⟩ | ⟨j, mm, vv, a, _, _, hf, hr, _⟩
   ·rw [a] at hT
    have hfk := run_findKey (P := P) (w := w) (l := me.toList) k1.und b'
    refine aG.pure hw hs (v := if ok then .tuple #[z2, .bool false] else z2) (r := if ok then .tup [(L et).zero.headD .undef, .bool false] else (L et).zero.headD .undef) ?_ ?_ ⟨hT, rfl⟩
    ·simp only [Instr.lookup, Sem.run_bind, run_underlying kn.und, Result.andThen_ok, run_getObj_map hb, Sem.run_pure, hck, hfk, hz1]
    ·cases ok
     ·exact hz2
     ·refine .tup rfl fun j x hx => ?_
      match j, hx with
      | 0, hx => simp only [List.getElem?_cons_zero, Option.some.injEq] at hx; subst hx; exact hz2
      | 1, hx => simp at hx; subst hx; exact .bool
   ·rw [hf] at hT
    have hfk := run_findKey (P := P) (w := w) (l := me.toList) k1.und a
    refine aG.pure hw hs (v := if ok then .tuple #[mm.val, .bool true] else mm.val) (r := if ok then .tup [vv, .bool true] else vv) ?_ ?_ ⟨hT, rfl⟩
    ·simp only [Instr.lookup, Sem.run_bind, run_underlying kn.und, Result.andThen_ok, run_getObj_map hb, Sem.run_pure, hck, hfk]
    ·cases ok
     ·exact hr.up
     ·refine .tup rfl fun j x hx => ?_
      match j, hx with
      | 0, hx => simp at hx; subst hx; exact hr.up
      | 1, hx => simp at hx; subst hx; exact .bool
  ·exact h.elim
 ·exact h.elim
section
variable {κ : Type} {kv : κ → Value}
theorem ie {G : Gh} : ∀ {es : List (κ × aa)} {ms : List MapEntry} {x : κ × aa} {m : MapEntry}, aM kv G es ms → m.key = kv x.1 → x.2.ar = true → Rep G false x.2 m.val → aM kv G (es ++ [x]) (ms ++ [m])
 | [], [], _, _, _, a, b, c => ⟨a, b, c, trivial⟩
 | [], _ :: _, _, _, h, _, _, _ => by simp [aM] at h
 | _ :: _, [], _, _, h, _, _, _ => by simp [aM] at h
 | _ :: _, _ :: _, _, _, h, a, b, c => ⟨h.1, h.2.1, h.2.2.1, ie h.2.2.2 a b c⟩
theorem nz {G : Gh} : ∀ {es : List (κ × aa)} {ms : List MapEntry} {x : κ × aa} {m : MapEntry} (j : Nat), aM kv G es ms → m.key = kv x.1 → x.2.ar = true → Rep G false x.2 m.val → aM kv G (es.set j x) (ms.set j m)
 | [], [], _, _, _, _, _, _, _ => trivial
 | [], _ :: _, _, _, _, h, _, _, _ => by simp [aM] at h
 | _ :: _, [], _, _, _, h, _, _, _ => by simp [aM] at h
 | _ :: _, _ :: _, _, _, 0, h, a, b, c => ⟨a, b, c, h.2.2.2⟩
 | _ :: _, _ :: _, _, _, j + 1, h, a, b, c => ⟨h.1, h.2.1, h.2.2.1, nz j h.2.2.2 a b c⟩
theorem nx {G : Gh} : ∀ {es : List (κ × aa)} {ms : List MapEntry} (j : Nat), aM kv G es ms → aM kv G (es.eraseIdx j) (ms.eraseIdx j)
 | [], [], _, _ => trivial
 | [], _ :: _, _, h => by simp [aM] at h
 | _ :: _, [], _, h => by simp [aM] at h
 | _ :: _, _ :: _, 0, h => h.2.2.2
 | _ :: _, _ :: _, j + 1, h => ⟨h.1, h.2.1, h.2.2.1, nx j h.2.2.2⟩
end
theorem eC {G : Gh} {w : World} {sto : Sto} {id g b cap esz : Nat} {es es' : List (ByteArray × aa)} {me' : Array MapEntry} {cl' : Nat} {o : Obj} (hw : WOk G w) (hs : an G w sto) (hget : ak sto id = some (g, .mp es)) (hM : G.M id g = some ⟨some b, cap, esz⟩)
  (hb : w.heap[b]? = some o) (hbig : es'.length ≤ ao) (h : qk G es' me'.toList) :
  WOk G { w with heap := w.heap.setIfInBounds b (.map me' cl') } ∧ an G { w with heap := w.heap.setIfInBounds b (.map me' cl') } (aF sto id (g, .mp es')) := by
 obtain ⟨h1, h2⟩ := heap_set (w := w) (o' := .map me' cl') hb
 have hbk : au G id g = some b := by simp [au, hM]
 have hF := ((hs.obj _ _ _ hget).blk hw b hbk).1
 exact eE (Kept.AL _ _ _ _) hw hs hget (by simp) (fun b' _ hne => h2 b' fun e => hne (by rw [hbk, e])) (pP hM hF h1 hbig h)
theorem jn {G : Gh} {w : World} {sto : Sto} {id g b cap esz : Nat} {es es' : List (Int × aa)} {me' : Array MapEntry} {cl' : Nat} {o : Obj} (hw : WOk G w) (hs : an G w sto) (hget : ak sto id = some (g, .mpi es)) (hM : G.M id g = some ⟨some b, cap, esz⟩)
  (hb : w.heap[b]? = some o) (hbig : es'.length ≤ ao) (h : mO G es' me'.toList) :
  WOk G { w with heap := w.heap.setIfInBounds b (.map me' cl') } ∧ an G { w with heap := w.heap.setIfInBounds b (.map me' cl') } (aF sto id (g, .mpi es')) := by
 obtain ⟨h1, h2⟩ := heap_set (w := w) (o' := .map me' cl') hb
 have hbk : au G id g = some b := by simp [au, hM]
 have hF := ((hs.obj _ _ _ hget).blk hw b hbk).1
 exact eE (Kept.AL _ _ _ _) hw hs hget (by simp) (fun b' _ hne => h2 b' fun e => hne (by rw [hbk, e])) (uK hM hF h1 hbig h)
theorem mn (hL : LOk P L) {t : Nat} (ht : (L t).ty ≠ .other) {m k x : aa} {v u y : Value} {G : Gh} {w : World} {sto : Sto} {T : Sto → Prop} (hw : WOk G w) (hs : an G w sto) (hm : Rep G true m v) (hk : Rep G true k u) (hx : Rep G true x y)
  (h : cn L t m k x sto T) : vC P (Instr.mapUpdate t v u y) G w T := by
 obtain ⟨i, d, z, kn⟩ := hL.known ht
 unfold cn at h
 split at h
 ·rename_i kt et he
  obtain ⟨rfl, hko, heo⟩ := ia kn he
  obtain ⟨i1, d1, z1, k1⟩ := hL.known hko
  split at h
  ·rename_i id g key
   obtain ⟨hstr, _, hag, hfz, h⟩ := h
   have := bX k1 hstr
   subst this
   obtain ⟨b, cap, esz, hM, rfl⟩ := Rep.fT hm
   obtain ⟨rfl, _⟩ := Rep.dG hk
   split at h
   case h_2 => exact h.elim
   rename_i g' es hget
   obtain ⟨rfl, hroom, hT⟩ := h
   obtain ⟨_, me, cl, hb, hbig, hents⟩ := qR hs hget hM
   have hck := fun e => run_checkKey (P := P) (w := w) k1.und (k := .string key) trivial e 9999
   have hcell : x.ar = true := by cases x <;> first | rfl | simp [aa.bT] at hfz
   have hxr := hx.down hfz
   rcases dL oi key es me.toList 0 hents with ⟨a, b', c, _⟩ | ⟨j, mm, vv, a, hj, hkey, _, _, _, hset, _, hlt⟩
   ·have hfk := run_findKey (P := P) (w := w) (l := me.toList) k1.und b'
    obtain ⟨h1, h2⟩ := eC (me' := me.push { key := .string key, val := y, born := cl }) (cl' := cl + 1) (es' := eQ es key x) hw hs hget hM hb (by rw [c]; simpa using hroom)
     (by rw [c, Array.toList_push]; exact ie hents rfl hcell hxr)
    refine ⟨_, _, ?_, h1, h2, hT⟩
    simp only [Instr.mapUpdate, Sem.run_bind, run_underlying kn.und, Result.andThen_ok, run_getObj_map hb, hck, hfk, run_setObj_map _ hb]
   ·have hfk := run_findKey (P := P) (w := w) (l := me.toList) k1.und a
    rw [Nat.zero_add] at hfk
    have hlt' : j < me.size := by have := ig hents; simp at this; omega
    have hmj : me[j]? = some mm := by simpa using hj
    obtain ⟨h1, h2⟩ := eC (me' := me.modify j fun e => { e with key := .string key, val := y }) (cl' := cl) (es' := eQ es key x) hw hs hget hM hb (by rw [hset]; simpa using hbig)
     (by
      rw [hset]
      have e1 : (me.modify j fun e => { e with key := .string key, val := y }).toList = me.toList.set j { mm with key := .string key, val := y } := by
       apply List.ext_getElem?
       intro n
       simp only [Array.getElem?_toList, Array.getElem?_modify, List.getElem?_set, Array.length_toList]
       by_cases hn : j = n
       ·subst hn
        have hmm : me[j] = mm := by rw [Array.getElem?_eq_getElem hlt'] at hmj; exact Option.some.inj hmj
        simp [hlt', hmm]
       ·simp [hn]
      rw [e1]
      exact nz j hents rfl hcell hxr)
    refine ⟨_, _, ?_, h1, h2, hT⟩
    have hks : (Instr.keyThatStays (.string key) (.string key)).run P w = .ok (.string key) w := by
     simp [Instr.keyThatStays, Instr.sameBits, bytes_beq]
    simp only [Instr.mapUpdate, Sem.run_bind, run_underlying kn.und, Result.andThen_ok, run_getObj_map hb, hck, hfk, hmj, Option.map_some, Option.getD_some, hkey, hks, run_setObj_map _ hb]
  ·rename_i id g key
   obtain ⟨hstr, _, hag, hfz, h⟩ := h
   have := so k1 hstr
   subst this
   obtain ⟨b, cap, esz, hM, rfl⟩ := Rep.fT hm
   obtain ⟨rfl, _⟩ := Rep.aK hk
   split at h
   case h_2 => exact h.elim
   rename_i g' es hget
   obtain ⟨rfl, hroom, hT⟩ := h
   obtain ⟨_, me, cl, hb, hbig, hents⟩ := sW hs hget hM
   have hck := fun e => run_checkKey (P := P) (w := w) k1.und (k := .int .i64 key) (by simp [IsKey]) e 9999
   have hcell : x.ar = true := by cases x <;> first | rfl | simp [aa.bT] at hfz
   have hxr := hx.down hfz
   rcases dL tt key es me.toList 0 hents with ⟨a, b', c, _⟩ | ⟨j, mm, vv, a, hj, hkey, _, _, _, hset, _, hlt⟩
   ·have hfk := run_findKey (P := P) (w := w) (l := me.toList) k1.und b'
    obtain ⟨h1, h2⟩ := jn (me' := me.push { key := .int .i64 key, val := y, born := cl }) (cl' := cl + 1) (es' := eQ es key x) hw hs hget hM hb (by rw [c]; simpa using hroom)
     (by rw [c, Array.toList_push]; exact ie hents rfl hcell hxr)
    refine ⟨_, _, ?_, h1, h2, hT⟩
    simp only [Instr.mapUpdate, Sem.run_bind, run_underlying kn.und, Result.andThen_ok, run_getObj_map hb, hck, hfk, run_setObj_map _ hb]
   ·have hfk := run_findKey (P := P) (w := w) (l := me.toList) k1.und a
    rw [Nat.zero_add] at hfk
    have hlt' : j < me.size := by have := ig hents; simp at this; omega
    have hmj : me[j]? = some mm := by simpa using hj
    obtain ⟨h1, h2⟩ := jn (me' := me.modify j fun e => { e with key := .int .i64 key, val := y }) (cl' := cl) (es' := eQ es key x) hw hs hget hM hb (by rw [hset]; simpa using hbig)
     (by
      rw [hset]
      have e1 : (me.modify j fun e => { e with key := .int .i64 key, val := y }).toList = me.toList.set j { mm with key := .int .i64 key, val := y } := by
       apply List.ext_getElem?
       intro n
       simp only [Array.getElem?_toList, Array.getElem?_modify, List.getElem?_set, Array.length_toList]
       by_cases hn : j = n
       ·subst hn
        have hmm : me[j] = mm := by rw [Array.getElem?_eq_getElem hlt'] at hmj; exact Option.some.inj hmj
        simp [hlt', hmm]
       ·simp [hn]
      rw [e1]
      exact nz j hents rfl hcell hxr)
    refine ⟨_, _, ?_, h1, h2, hT⟩
    have hks : (Instr.keyThatStays (.int .i64 key) (.int .i64 key)).run P w = .ok (.int .i64 key) w := by
     simp [Instr.keyThatStays, Instr.sameBits]
    simp only [Instr.mapUpdate, Sem.run_bind, run_underlying kn.und, Result.andThen_ok, run_getObj_map hb, hck, hfk, hmj, Option.map_some, Option.getD_some, hkey, hks, run_setObj_map _ hb]
  ·exact h.elim
 ·exact h.elim
theorem qv (hL : LOk P L) {t t2 ty : Nat} (ht : (L t).ty ≠ .other) {v u : Value} {id g : Nat} {key : ByteArray} {es : List (ByteArray × aa)} {G : Gh} {w : World} {sto : Sto} (hw : WOk G w) (hs : an G w sto) (hm : Rep G true (.map id g) v) (hk : Rep G true (.str key) u)
  {kt et : Nat} (he : (L t).ty = .map kt et) (hstr : (L kt).ty = .string) (hget : ak sto id = some (g, .mp es)) :
  ∃ w', (Builtin.delete_ #[t, t2] ty #[v, u]).run P w = .ok (.tuple #[]) w' ∧ WOk G w' ∧ an G w' (aF sto id (g, .mp (j7 es key))) := by
 obtain ⟨i, d, z, kn⟩ := hL.known ht
 obtain ⟨rfl, hko, heo⟩ := ia kn he
 obtain ⟨i1, d1, z1, k1⟩ := hL.known hko
 have := bX k1 hstr
 subst this
 obtain ⟨b, cap, esz, hM, rfl⟩ := Rep.fT hm
 obtain ⟨rfl, _⟩ := Rep.dG hk
 obtain ⟨_, me, cl, hb, hbig, hents⟩ := qR hs hget hM
 have hck := fun e => run_checkKey (P := P) (w := w) k1.und (k := .string key) trivial e 9999
 rcases dL oi key es me.toList 0 hents with ⟨a, b', _, c⟩ | ⟨j, mm, vv, a, hj, hkey, _, _, _, _, hdel, hlt⟩
 ·have hfk := run_findKey (P := P) (w := w) (l := me.toList) k1.und b'
  obtain ⟨h1, h2⟩ := eC (me' := me) (cl' := cl) (es' := j7 es key) hw hs hget hM hb (by rw [c]; exact hbig) (by rw [c]; exact hents)
  refine ⟨_, ?_, h1, h2⟩
  simp [Builtin.delete_, run_underlying kn.und, run_getObj_map hb, hck, hfk, run_setObj_map _ hb, Result.andThen]
 ·have hfk := run_findKey (P := P) (w := w) (l := me.toList) k1.und a
  rw [Nat.zero_add] at hfk
  obtain ⟨h1, h2⟩ := eC (me' := me.eraseIdxIfInBounds j) (cl' := cl) (es' := j7 es key) hw hs hget hM hb (by rw [hdel, List.length_eraseIdx]; split <;> omega)
   (by
    rw [hdel]
    have e1 : (me.eraseIdxIfInBounds j).toList = me.toList.eraseIdx j := by simp
    rw [e1]; exact nx j hents)
  refine ⟨_, ?_, h1, h2⟩
  simp [Builtin.delete_, run_underlying kn.und, run_getObj_map hb, hck, hfk, run_setObj_map _ hb, Result.andThen]
theorem o8 {t d : Nat} {G : Gh} {w : World} {sto : Sto} {T : aa → Sto → Prop} (hw : WOk G w) (hs : an G w sto) (h : ∀ h, T (.map d h) (aF sto d (h, .mp []))) : aG P (Instr.makeMap t none) G w T := by
 obtain ⟨a, b, c⟩ := dV (w' := w.alloc (.map #[] 0)) (id := d) (o := .mp []) (hd := ⟨some w.heap.size, 0, 0⟩) (Kept.allocMap _ _ _) hw hs (by simp) (fun b hb _ => heap_alloc_old w _ b hb)
  (fun b hb => by simp only [Option.some.injEq] at hb; subst hb; exact ⟨by simp, .inl (Nat.le_refl _)⟩)
  (pP (bU _ _ _) (show G.F w.heap.size = none from gn hw) (heap_alloc_new w _) (by simp) trivial)
 exact ⟨_, _, _, _, _, by simp [Instr.makeMap], a, b, c, .map (bU _ _ _), h _⟩
end Go.Rad
