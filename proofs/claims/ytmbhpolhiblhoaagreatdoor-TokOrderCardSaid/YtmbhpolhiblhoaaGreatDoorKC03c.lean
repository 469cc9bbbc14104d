/- A part of the proof. -/
import Derived.Test.YtmbhpolhiblhoaaGreatDoorKC05a
import Derived.Test.YtmbhpolhiblhoaaGreatDoorKRDraw
import Derived.Test.YtmbhpolhiblhoaaGreatDoorKROpS
import Derived.OpenShut
import Derived.Carry
import Derived.Deep.Slices
import Derived.Deep.DeepHandedRow
set_option linter.all false
namespace Go.Rad
open Go Go.Proofs
set_option linter.all false
set_option maxRecDepth 20000
set_option maxHeartbeats 4000000
theorem ki : b9.ok := ⟨by decide, by decide, by decide, by decide⟩
theorem eS : aQ.ok := ⟨by decide, by decide, by decide, by decide⟩
theorem qn : ∀ (l : List Nat) (f : Nat → Nat) {s : aw}, s.ok → (l.foldl (fun s i => s.add (f i)) s).ok
 | [], _, _, h => h
 | _ :: l, f, _, h => qn l f (jw h)
theorem pX (lo hi : Nat) : (dN lo hi).ok := qn _ _ eS
theorem lf (l : List Nat) : (ofS l).ok := qn l id eS
def dg (o : aw) (b : Nat) : aw := (aQ.or o).or (ofS [(b + 224) % 256])
def dy (o : aw) (b : Nat) : aw := (aQ.or o).or (ofS [(b + 32) % 256])
def fk (s : aw) : aw := (jj ((b9.and s).and (dN 65 90))).foldl dy ((jj ((b9.and s).and (dN 97 122))).foldl dg s)
theorem kX : ∀ (l : List Nat) {s : aw}, s.ok → (l.foldl dg s).ok
 | [], _, h => h
 | _ :: l, _, h => kX l (jm (jm eS h) (lf _))
theorem pB : ∀ (l : List Nat) {s : aw}, s.ok → (l.foldl dy s).ok
 | [], _, h => h
 | _ :: l, _, h => pB l (jm (jm eS h) (lf _))
theorem zu {s : aw} (h : s.ok) : (fk s).ok := pB _ (kX _ h)
theorem Ch (s : aw) (hok : s.ok) : ah Tryz.prog 81 [.agg s.I.cells] [] fun r s' => r = .agg (fk s).I.cells ∧ s' = [] := by
 have hr1 : ah Tryz.prog 113 [.int .u8 97, .int .u8 122] [] fun r s' => r = .agg (dN 97 122).I.cells ∧ s' = [] := tc 97 122 (by decide) (by decide)
 have hr2 : ah Tryz.prog 113 [.int .u8 65, .int .u8 90] [] fun r s' => r = .agg (dN 65 90).I.cells ∧ s' = [] := tc 65 90 (by decide) (by decide)
 have k1 := pX 97 122
 have k2 := pX 65 90
 unfold fk
 generalize dN 97 122 = r1 at hr1 k1 ⊢
 generalize dN 65 90 = r2 at hr2 k2 ⊢
 have ha1 := yS true false [s, r1] (by simp [hok, k1]) (by simp)
 have ha2 := yS true false [s, r2] (by simp [hok, k2]) (by simp)
 have hl1 := vZ ((b9.and s).and r1) (gf (gf ki))
 have hl2 := vZ ((b9.and s).and r2) (gf (gf ki))
 have b1 := il ((b9.and s).and r1) 4
 have b2 := il ((b9.and s).and r2) 4
 have c1 := gy ((b9.and s).and r1) 4
 have c2 := gy ((b9.and s).and r2) 4
 simp only [List.foldl_cons, List.foldl_nil, List.map_cons, List.map_nil, nW] at ha1 ha2
 change ∀ x ∈ jj _, _ at b1 b2
 change (jj _).length ≤ _ at c1 c2
 generalize (b9.and s).and r1 = q1 at ha1 hl1 b1 c1 ⊢
 generalize (b9.and s).and r2 = q2 at ha2 hl2 b2 c2 ⊢
 generalize jj q1 = l1 at hl1 b1 c1 ⊢
 generalize jj q2 = l2 at hl2 b2 c2 ⊢
 refine ah.enter Tryz.func81 rfl (by kernel_rfl) (Nat.le_of_ble_eq_true rfl) ?_; simp only [ai, Nat.reduceAdd]
 repeat' (first
 | refine gCt rfl ?_
 | ((first
 | ((first | refine gRg [11] fp81 ?_ | refine gDr 2 [11] 7 ro7 fp81 rfl ?_ | refine gDr 5 [11] 3 ro8 fp81 rfl ?_ | refine gDr 7 [11] 3 [0, 1, 6, 2, 3, 4, 5] fp81 rfl ?_ | refine gDr 10 [11] 3 ro8 fp81 rfl ?_); intro K hK)
 | (refine ⟨_, ah.alone hr1 rfl rfl rfl, ?_⟩)
 | (refine ⟨_, ah.alone ha1 rfl rfl rfl, ?_⟩)
 | (refine ⟨_, ah.alone hl1 rfl rfl rfl, ?_⟩)
 | (refine ab ?_ ?_ <;> intro hb <;> (try simp only [bls] at hb) <;> (try simp only [hb]))
 | refine gRe [] [.cell 2 46] rfl rfl ?_) <;> (try simp only [go_sem, simprocAttr]))
 | (refine hK _ _ ?_; clear hK K; simp only [go_sem, simprocAttr])
 | refine gCd ?_ | refine brT ?_ | refine brF ?_
 | (refine brS ?_ ?_ <;> intro hc <;> (try simp only [bls] at hc) <;> (try simp only [hc, bls]))
 | intro _ | refine And.intro ?_ ?_)
 rename_i g1 g2 g3
 refine ae.prune [1, 2, 3, 13, 14, 15] ?_; simp only [go_sem, simprocAttr]
 refine ae.al (α := Nat) (fun i => ([(1, .bx 1 g1 0), (2, .bx 2 g2 0), (3, .bx 3 g3 0), (13, .sl true false (cp l1)), (14, .int .i64 l1.length), (15, .int .i64 i)], [(1, g1, .box s.I.cells), (2, g2, .box aQ.I.cells), (3, g3, .box ((l1.take i).foldl dg s).I.cells)])) (fun i => i ≤ l1.length ∧ ((l1.take i).foldl dg s).ok) (fun i => l1.length - i) 0 ⟨Nat.zero_le _, by first | exact hok | exact hokk⟩ rfl ?_
 rintro i ⟨hi, hok2⟩ ih
 simp only
 by_cases hle : i < l1.length
 ·skip
  have e4 : (i : Int) < l1.length := by omega
  have e5 : (0 : Int) ≤ i := by omega
  have hx : l1[i]? = some l1[i] := List.getElem?_eq_getElem hle
  have ht : (l1.take (i + 1)).foldl dg s = dg ((l1.take i).foldl dg s) l1[i] := by rw [take_one hx, List.foldl_append]; rfl
  generalize l1[i] = b at hx ht
  have hw : IntKind.u8.wrap ((b : Int) - 32) = (((b + 224) % 256 : Nat) : Int) := by
   have f6 : ∀ z : Int, IntKind.u8.wrap z = z % 256 := by intro z; simp [IntKind.wrap, IntKind.signed, IntKind.bits]
   rw [f6]; omega
  have hof := Et true false [(b + 224) % 256] (by simp; omega) (by simp)
  have hk2 : ((l1.take (i + 1)).foldl dg s).ok := by rw [ht]; exact jm (jm eS hok2) (lf _)
  have ih := ih (i + 1) ⟨by omega, hk2⟩ (by omega)
  have e1 : (aQ.or ((l1.take i).foldl dg s)).or (ofS [(b + 224) % 256]) = (l1.take (i + 1)).foldl dg s := ht.symm
  generalize (l1.take (i + 1)).foldl dg s = c' at e1 ih hk2
  generalize (l1.take i).foldl dg s = c at e1 hok2 ⊢
  have hoo := lf [(b + 224) % 256]
  generalize ofS [(b + 224) % 256] = o at hof e1 hoo
  have hor := Eu true false [c, o] (by simp [hok2, hoo]) (by simp)
  simp only [List.foldl_cons, List.foldl_nil, e1] at hor
  clear ht
  repeat' (first
 | refine gCt rfl ?_
 | ((first
 | ((first | refine gRg [22, 24] fp81 ?_ | refine gDr 2 [22, 24] 3 [0, 1, 6, 2, 3, 4, 5] fp81 rfl ?_ | refine gDr 5 [22, 24] 7 ro8 fp81 rfl ?_ | refine gDr 7 [22, 24] 3 [0, 1, 6, 2, 3, 4, 5] fp81 rfl ?_ | refine gDr 10 [22, 24] 3 ro8 fp81 rfl ?_); intro K hK)
 | (refine ⟨_, ah.alone hof rfl rfl rfl, ?_⟩)
 | (refine ⟨_, ah.alone hor rfl rfl rfl, ?_⟩)
 | (refine ab ?_ ?_ <;> intro hb <;> (try simp only [bls] at hb) <;> (try simp only [hb]))
 | refine gRe [] [.cell 2 46] rfl rfl ?_) <;> (try simp only [go_sem, simprocAttr, e4, e5, hx, hw, Option.some.injEq, forall_eq']))
 | (refine hK _ _ ?_; clear hK K; simp only [go_sem, simprocAttr])
 | refine gCd ?_ | refine brT ?_ | refine brF ?_
 | (refine brS ?_ ?_ <;> intro hc <;> (try simp only [bls] at hc) <;> (try simp only [hc, bls]))
 | intro _ | refine And.intro ?_ ?_)
  all_goals try exact zsd
  refine ae.prune [1, 2, 3, 13, 14, 15] ?_; simp only [go_sem, simprocAttr]
  exact ih.cast rfl rfl
 ·have e4 : ¬ (i : Int) < l1.length := by omega
  rw [List.take_of_length_le (by omega)]
  have hokk := kX l1 hok
  generalize l1.foldl dg s = s1 at hokk ⊢
  clear ih
  repeat' (first
 | refine gCt rfl ?_
 | ((first
 | ((first | refine gRg [29] fp81 ?_ | refine gDr 2 [29] 3 [0, 1, 6, 2, 3, 4, 5] fp81 rfl ?_ | refine gDr 5 [29] 3 ro8 fp81 rfl ?_ | refine gDr 7 [29] 7 ro7 fp81 rfl ?_ | refine gDr 10 [29] 3 ro8 fp81 rfl ?_); intro K hK)
 | (refine ⟨_, ah.alone hr2 rfl rfl rfl, ?_⟩)
 | (refine ⟨_, ah.alone ha2 rfl rfl rfl, ?_⟩)
 | (refine ⟨_, ah.alone hl2 rfl rfl rfl, ?_⟩)
 | (refine ab ?_ ?_ <;> intro hb <;> (try simp only [bls] at hb) <;> (try simp only [hb]))
 | refine gRe [] [.cell 2 46] rfl rfl ?_) <;> (try simp only [go_sem, simprocAttr, e4]))
 | (refine hK _ _ ?_; clear hK K; simp only [go_sem, simprocAttr])
 | refine gCd ?_ | refine brT ?_ | refine brF ?_
 | (refine brS ?_ ?_ <;> intro hc <;> (try simp only [bls] at hc) <;> (try simp only [hc, bls]))
 | intro _ | refine And.intro ?_ ?_)
  clear e4 hi hok2
  refine ae.prune [1, 2, 3, 31, 32, 33] ?_; simp only [go_sem, simprocAttr]
  refine ae.al (α := Nat) (fun i => ([(1, .bx 1 g1 0), (2, .bx 2 g2 0), (3, .bx 3 g3 0), (31, .sl true false (cp l2)), (32, .int .i64 l2.length), (33, .int .i64 i)], [(1, g1, .box s.I.cells), (2, g2, .box aQ.I.cells), (3, g3, .box ((l2.take i).foldl dy s1).I.cells)])) (fun i => i ≤ l2.length ∧ ((l2.take i).foldl dy s1).ok) (fun i => l2.length - i) 0 ⟨Nat.zero_le _, by first | exact hok | exact hokk⟩ rfl ?_
  rintro i ⟨hi, hok2⟩ ih
  simp only
  by_cases hle : i < l2.length
  ·skip
   have e4 : (i : Int) < l2.length := by omega
   have e5 : (0 : Int) ≤ i := by omega
   have hx : l2[i]? = some l2[i] := List.getElem?_eq_getElem hle
   have ht : (l2.take (i + 1)).foldl dy s1 = dy ((l2.take i).foldl dy s1) l2[i] := by rw [take_one hx, List.foldl_append]; rfl
   generalize l2[i] = b at hx ht
   have hw : IntKind.u8.wrap ((b : Int) + 32) = (((b + 32) % 256 : Nat) : Int) := by
    have f6 : ∀ z : Int, IntKind.u8.wrap z = z % 256 := by intro z; simp [IntKind.wrap, IntKind.signed, IntKind.bits]
    rw [f6]; omega
   have hof := Et true false [(b + 32) % 256] (by simp; omega) (by simp)
   have hk2 : ((l2.take (i + 1)).foldl dy s1).ok := by rw [ht]; exact jm (jm eS hok2) (lf _)
   have ih := ih (i + 1) ⟨by omega, hk2⟩ (by omega)
   have e1 : (aQ.or ((l2.take i).foldl dy s1)).or (ofS [(b + 32) % 256]) = (l2.take (i + 1)).foldl dy s1 := ht.symm
   generalize (l2.take (i + 1)).foldl dy s1 = c' at e1 ih hk2
   generalize (l2.take i).foldl dy s1 = c at e1 hok2 ⊢
   have hoo := lf [(b + 32) % 256]
   generalize ofS [(b + 32) % 256] = o at hof e1 hoo
   have hor := Eu true false [c, o] (by simp [hok2, hoo]) (by simp)
   simp only [List.foldl_cons, List.foldl_nil, e1] at hor
   clear ht
   repeat' (first
 | refine gCt rfl ?_
 | ((first
 | ((first | refine gRg [40, 42] fp81 ?_ | refine gDr 2 [40, 42] 3 [0, 1, 6, 2, 3, 4, 5] fp81 rfl ?_ | refine gDr 5 [40, 42] 3 ro8 fp81 rfl ?_ | refine gDr 7 [40, 42] 3 [0, 1, 6, 2, 3, 4, 5] fp81 rfl ?_ | refine gDr 10 [40, 42] 7 ro8 fp81 rfl ?_); intro K hK)
 | (refine ⟨_, ah.alone hof rfl rfl rfl, ?_⟩)
 | (refine ⟨_, ah.alone hor rfl rfl rfl, ?_⟩)
 | (refine ab ?_ ?_ <;> intro hb <;> (try simp only [bls] at hb) <;> (try simp only [hb]))
 | refine gRe [] [.cell 2 46] rfl rfl ?_) <;> (try simp only [go_sem, simprocAttr, e4, e5, hx, hw, Option.some.injEq, forall_eq']))
 | (refine hK _ _ ?_; clear hK K; simp only [go_sem, simprocAttr])
 | refine gCd ?_ | refine brT ?_ | refine brF ?_
 | (refine brS ?_ ?_ <;> intro hc <;> (try simp only [bls] at hc) <;> (try simp only [hc, bls]))
 | intro _ | refine And.intro ?_ ?_)
   all_goals try exact zsd
   refine ae.prune [1, 2, 3, 31, 32, 33] ?_; simp only [go_sem, simprocAttr]
   exact ih.cast rfl rfl
  ·have e4 : ¬ (i : Int) < l2.length := by omega
   rw [List.take_of_length_le (by omega)]
   repeat' (first
 | refine gCt rfl ?_
 | ((first
 | ((first | refine gR fp81 ?_ | refine gD 2 3 [0, 1, 6, 2, 3, 4, 5] fp81 ?_ | refine gD 5 3 ro8 fp81 ?_ | refine gD 7 3 [0, 1, 6, 2, 3, 4, 5] fp81 ?_ | refine gD 10 3 ro8 fp81 ?_); intro K hK)
 | (refine ab ?_ ?_ <;> intro hb <;> (try simp only [bls] at hb) <;> (try simp only [hb]))
 | refine gRe [] [.cell 2 46] rfl rfl ?_) <;> (try simp only [go_sem, simprocAttr, e4]))
 | (refine hK _ _ ?_; clear hK K; simp only [go_sem, simprocAttr])
 | refine gCd ?_ | refine brT ?_ | refine brF ?_
 | (refine brS ?_ ?_ <;> intro hc <;> (try simp only [bls] at hc) <;> (try simp only [hc, bls]))
 | intro _ | refine And.intro ?_ ?_)
end Go.Rad
namespace Go.Rad
open Go
theorem ah.post {P : Program} {f : Nat} {args : List aa} {sto : Sto} {R R' : aa → Sto → Prop} (h : ah P f args sto R)
  (hp : ∀ (G : Gh) (w : World) (r : aa) (s : Sto) (v : Value), WOk G w → an G w s → Rep G true r v → R r s → ∃ G' r' s', Ext G G' ∧ WOk G' w ∧ an G' w s' ∧ Rep G' true r' v ∧ R' r' s') : ah P f args sto R' := by
 refine ⟨h.able, fun G w cargs a b c => (h.calls G w cargs a b c).mono fun _ _ p => ?_⟩
 obtain ⟨G', cr, r, sto', a, b, c, d, e', f⟩ := p
 obtain ⟨G2, r2, s2, x1, x2, x3, x4, x5⟩ := hp _ _ _ _ _ c d e' f
 exact ⟨G2, cr, r2, s2, a, b.trans x1, x2, x3, x4, x5⟩
theorem ah.nH {P : Program} {f : Nat} {args : List aa} {sto : Sto} {R R' : aa → Sto → Prop} (h : ah P f args sto R)
  (hp : ∀ r s, R r s → (∃ id g esz l, r = .osl id g 0 l.length ∧ ak s id = some (g, .row esz l) ∧ R' (.sl true false l) (ca s id)) ∨ (∃ q full l, r = .sl q full l ∧ R' (.sl q false l) s) ∨ R' r s) : ah P f args sto R' := by
 refine h.post fun G w r s v hw hs hr hR => ?_
 rcases hp r s hR with ⟨id, g, esz, l, rfl, hg, h'⟩ | ⟨q, full, l, rfl, h'⟩ | h'
 ·obtain ⟨G', hext, hw', hs', hR⟩ := gK hw hs hg
  have := hR 0 l.length v (by omega) hr
  simp only [List.drop_zero, List.take_length] at this
  exact ⟨G', _, _, hext, hw', hs', this, h'⟩
 ·refine ⟨G, _, s, .refl G, hw, hs, ?_, h'⟩
  cases hr with
  | slnil => exact .slnil (fun h => by cases h)
  | sl a _ b c d e f g h => exact .sl a (fun h => by cases h) b c d e f g h
 ·exact ⟨G, r, s, .refl G, hw, hs, hr, h'⟩
theorem ah.Ei {P : Program} {f : Nat} {args : List aa} {sto : Sto} {R : aa → Sto → Prop} (i : Nat) {q full : Bool} {l : List (List aa)} (able : du P f) (hi : args[i]? = some (.sl q full l))
  (h : (∀ (m j : Nat) (x : List aa) (k : IntKind) (n : Int), l[m]? = some x → x[j]? = some (.int k n) → fits k n) → ah P f args sto R) : ah P f args sto R := by
 refine ⟨able, fun G w cargs hw hs ha => ?_⟩
 have hr := ha.2 i _ hi
 generalize cargs.getD i undef = v at hr
 refine (h fun m j x k n hm hj => ?_).calls G w cargs hw hs ha
 cases hr with
 | slnil => simp at hm
 | sl _ _ _ _ _ _ _ _ hc =>
  have := hc m j x _ hm hj
  revert this
  generalize Array.getD _ _ undef = u
  intro this
  cases this with
  | int hf => exact hf
end Go.Rad
namespace Go.Rad
open Go Go.ChangeShapes Go.RowKit Go.Deep
variable {P : Program} {L : Lay}
def eH (W : World) : Gh := { F := fun b => W.heap[b]?, S := fun _ => True, L := fun _ => False, M := fun _ _ => none, N := 0, W0 := W }
def ql (W : World) : Prop := ∀ (g : Nat) (l : List Int), nI g = some l → Rep (eH W) true (.ref true (fP l)) (.pointer (some ⟨g, 0, none⟩))
theorem wV {W : World} (hT : ql W) : WOk (eH W) W := ⟨.refl W, fun _ _ h => h, fun _ _ _ _ h => by simp [eH] at h, fun _ _ _ => rfl, hT⟩
theorem DK {G : Gh} {w : World} : an G w [] := ⟨fun _ _ _ h => by simp [ak] at h, fun _ _ _ _ _ _ h => by simp [ak] at h⟩
theorem ui {W W' : World} {G : Gh} (hx : Ext (eH W) G) (hw : WOk G W') : W.keptBut W' (fun _ => False) ∧ ∀ a : Addr, a.block < W.heap.size → W'.frozen? a = W.frozen? a := by
 have hold : ∀ i, i < W.heap.size → W'.heap[i]? = W.heap[i]? := by
  intro i hi
  have h1 : (eH W).F i = some W.heap[i] := Array.getElem?_eq_getElem hi
  rw [hw.F i _ (hx.F i _ h1), Array.getElem?_eq_getElem hi]
 have hk : Kept W W' := by have := hw.K; rw [hx.W0] at this; exact this
 refine ⟨⟨hk.os, hk.out, fun i hi => ?_⟩, fun a ha => ?_⟩
 ·rw [hold i hi]
  cases W.heap[i]? with
  | none => rfl
  | some o => cases o <;> simp
 ·simp only [World.frozen?, hold _ ha]
theorem Ao {H : Type} {enc : TypeId × Value → H} {f : Func} {s : ChangeSpec} {apart fresh handsOn again : Bool} {W W' : World} {args : Array Value} {v : Value} {ds gs : List (DataW H)} {before pa pv : List MemPlace}
  (hW : DataW.Whole enc P f.params.toList s.vars apart W args.toList ds gs before)
  (hres : ∀ (b : Nat) (sp : Nat → Bool) (hd : Bool), DataW.TrodAll enc P W' b sp hd f.resultTypes.toList (v.resultList f.resultTypes.size) (s.fn H (ds ++ gs)).results [])
  (hargs : ∀ sp : Nat → Bool, (∀ p ∈ before, sp p.block = true) → DataW.TrodAll enc P W' 0 sp true f.params.toList args.toList (s.fn H (ds ++ gs)).args pa)
  (hvars : ∀ sp : Nat → Bool, (∀ p ∈ before, sp p.block = true) → DataW.TrodVars enc P W' sp s.vars (s.fn H (ds ++ gs)).vars pv)
  (hps : before = pa ++ pv) (hk : W.keptBut W' (· ∈ before)) (hfz : ∀ a : Addr, a.block < W.heap.size → W'.frozen? a = W.frozen? a)
  (hok : ∀ (j : Nat) (t : TypeId) (r : Value), f.resultTypes[j]? = some t → (v.resultList f.resultTypes.size)[j]? = some r → Value.okWide P W' .any 0 t r) :
  s.post enc P f apart fresh handsOn again W args v W' := by
 have hall : ∀ p ∈ before, p.block < W.heap.size := fun p hp => hW.lt p hp
 have hin : ∀ p ∈ before, (fun b => decide (b < W.heap.size)) p.block = true := fun p hp => decide_eq_true (hall p hp)
 have hmem : ∀ p, p ∈ ([] ++ pa) ++ pv → p ∈ before := fun p hp => by rw [hps]; exact hp
 refine ⟨ds, gs, before, [], pa, pv, hW, hres _ _ _, hargs _ hin, hvars _ hin, World.keptBut_mono (fun p hp => ⟨hp, ?_⟩) hk, fun _ => ?_⟩
 ·rw [hps] at hp
  exact .inr (List.mem_append.1 hp)
 ·obtain ⟨_, _, _, _, _, hz, hn⟩ := hW
  refine ⟨hok, _, _, ([] ++ pa) ++ pv, ⟨[] ++ pa, pv, trodAll_append (hargs _ fun _ _ => rfl) (hres _ _ _), hvars _ fun _ _ => rfl, rfl, fun b off hp => ?_, fun ha => ?_⟩, fun p hp _ => ?_⟩
  ·have := hall _ (hmem _ hp)
   rw [hfz _ this]
   exact hz b off (hmem _ hp)
  ·have := hn ha
   rw [hps] at this
   simpa using this
  ·rw [hps]
   simpa using hp
def rD (p : Nat → List aa → Prop) : List (Nat × Nat) → List aa → Prop
 | [], cs => cs = []
 | (_, t) :: r, cs => ∃ xs rest, cs = xs ++ rest ∧ p t xs ∧ rD p r rest
def rE (p : List aa → Prop) : Nat → List aa → Prop
 | 0, cs => cs = []
 | n + 1, cs => ∃ xs rest, cs = xs ++ rest ∧ p xs ∧ rE p n rest
def typed (L : Lay) : Nat → Nat → List aa → Prop
 | 0, _, _ => False
 | k + 1, t, cs =>
  match (L t).ty with
  | .int i => ∃ n, cs = [.int i n] ∧ fits i n
  | .bool => ∃ b, cs = [.bool b]
  | .string => ∃ s : ByteArray, cs = [.str s] ∧ s.size ≤ maxLen
  | .slice e => ∃ (l : List (List aa)), cs = [.sl true false l] ∧ l.length ≤ maxLen ∧ ∀ x ∈ l, typed L k e x
  | .struct fs => rD (typed L k) fs cs
  | .array n e => rE (typed L k e) n cs
  | _ => False
def iq (L : Lay) : Nat → List (Nat × Nat) → Nat → Bool
 | o, [], sz => o == sz
 | o, (a, t) :: r, sz => a == o && iq L (o + (L t).sz) r sz
def cq (L : Lay) : Nat → Nat → Bool
 | 0, _ => false
 | k + 1, t =>
  match (L t).ty with
  | .int _ => (L t).sz == 1 && !(L t).ag
  | .bool => (L t).sz == 1 && !(L t).ag
  | .string => (L t).sz == 1 && !(L t).ag
  | .slice e => (L t).sz == 1 && !(L t).ag && decide (0 < (L e).sz) && cq L k e
  | .struct fs => (L t).ag && iq L 0 fs (L t).sz && fs.all fun f => cq L k f.2
  | .array n e => (L t).ag && (n * (L e).sz == (L t).sz) && cq L k e
  | _ => false
def kP (G : Gh) (ys : List aa) (cs : List Value) : Prop := ys.length = cs.length ∧ (∀ (j : Nat) (y : aa), ys[j]? = some y → y.ar = true) ∧ ∀ (j : Nat) (y : aa), ys[j]? = some y → Rep G false y (cs.getD j undef)
theorem kP.nil {G : Gh} : kP G [] [] := ⟨rfl, fun _ _ h => by simp at h, fun _ _ h => by simp at h⟩
theorem kP.one {G : Gh} {y : aa} {v : Value} (hc : y.ar = true) (h : Rep G false y v) : kP G [y] [v] := by
 refine ⟨rfl, fun j x hx => ?_, fun j x hx => ?_⟩ <;>
 ·cases j with
  | zero => simp at hx; subst hx; first | exact hc | exact h
  | succ j => simp at hx
theorem kP.append {G : Gh} {ys zs : List aa} {cs ds : List Value} (h : kP G ys cs) (k : kP G zs ds) : kP G (ys ++ zs) (cs ++ ds) := by
 refine ⟨by simp [h.1, k.1], fun j x hx => ?_, fun j x hx => ?_⟩
 ·rw [List.getElem?_append] at hx
  split at hx
  ·exact h.2.1 j x hx
  ·exact k.2.1 _ x hx
 ·rw [List.getElem?_append] at hx
  split at hx
  ·rename_i hlt
   have := h.2.2 j x hx
   simpa [List.getD, List.getElem?_append, h.1 ▸ hlt] using this
  ·rename_i hlt
   have := k.2.2 _ x hx
   rw [h.1] at hlt this
   simpa [List.getD, List.getElem?_append, hlt] using this
theorem cI.cellsOf {t : Nat} {i : TypeInfo} {d : TypeDesc} {z : Value} (h : cI P L t i d z) : P.cellsOf t = (L t).sz := by
 simp [Program.cellsOf, h.info, h.size]
theorem iN {k t : Nat} (h : cq L k t = true) : (L t).ty ≠ .other := by
 cases k with
 | zero => simp [cq] at h
 | succ k => intro e; simp [cq, e] at h
section
variable {H : Type} {enc : TypeId × Value → H} {W : World}
theorem iG (hL : LOk P L) : ∀ (k t : Nat), cq L k t = true → ∀ (fuel : Nat) (cs : List Value) (x : DataW H × List MemPlace), DataW.trod enc P W 0 (fun _ => true) true fuel t cs = some x → cs.length = (L t).sz →
  ∃ ys, typed L k t ys ∧ kP (eH W) ys cs
 | 0, t, hd, _, _, _, _, _ => by simp [cq] at hd
 | k + 1, t, hd, fuel, cs, x, h, hlen => by
  obtain ⟨i, d, z, kn⟩ := hL.known (iN hd)
  have hdesc := kn.desc
  have hu := kn.und
  unfold cq at hd
  unfold typed
  cases hty : (L t).ty with
  | int q =>
   simp only [hty] at hd hdesc ⊢
   cases d <;> simp only [bN, Bool.false_eq_true] at hdesc
   rename_i q'
   obtain rfl : q = q' := by simpa using hdesc
   obtain ⟨n, rfl, _, hw⟩ := DataW.trod_int hu h
   have hf : fits q n := by simpa [Lit.wf, fits] using hw
   exact ⟨[.int q n], ⟨n, rfl, hf⟩, .one rfl (.int hf)⟩
  | bool =>
   simp only [hty] at hd hdesc ⊢
   cases d <;> simp only [bN, Bool.false_eq_true] at hdesc
   obtain ⟨b, rfl, _⟩ := DataW.trod_bool hu h
   exact ⟨[.bool b], ⟨b, rfl⟩, .one rfl .bool⟩
  | string =>
   simp only [hty] at hd hdesc ⊢
   cases d <;> simp only [bN, Bool.false_eq_true] at hdesc
   obtain ⟨s, rfl, _, hs⟩ := DataW.trod_string hu h
   exact ⟨[.str s], ⟨s, rfl, hs⟩, .one rfl (.str hs)⟩
  | slice e =>
   simp only [hty, Bool.and_eq_true, beq_iff_eq, decide_eq_true_eq] at hd hdesc ⊢
   cases d <;> simp only [bN, Bool.false_eq_true] at hdesc
   rename_i e'
   obtain ⟨rfl, hne⟩ : e = e' ∧ _ := by simpa using hdesc
   obtain ⟨⟨_, hpos⟩, hde⟩ := hd
   obtain ⟨i2, d2, z2, kn2⟩ := hL.known (iN hde)
   have hce := kn2.cellsOf
   rcases open_slice hu h with ⟨rfl, _⟩ | ⟨a, len, cap, m, n, D, Pl, rfl, _, hle, hcap, hm, _, hall⟩
   ·exact ⟨[.sl true false []], ⟨[], rfl, Nat.zero_le _, fun x hx => by cases hx⟩, .one rfl (.slnil fun h => by cases h)⟩
   ·simp only [if_true] at hm
    subst hm
    have hel : ∀ i, i < len → ∃ ys cs', W.cells? 0 (a.add (i * (L e).sz)) (L e).sz = some cs' ∧ typed L k e ys ∧ kP (eH W) ys cs' := by
     intro i hi
     obtain ⟨cs', h1, h2⟩ := hall i (by omega)
     rw [hce] at h1
     obtain ⟨ys, h3, h4⟩ := iG hL k e hde _ cs' _ h2 (World.cells?_some h1).2.1
     exact ⟨ys, cs', h1, h3, h4⟩
    rcases Nat.eq_zero_or_pos len with h0 | hl
    ·subst h0
     exact ⟨[.sl true false []], ⟨[], rfl, Nat.zero_le _, fun x hx => by cases hx⟩, .one rfl (.slnil fun h => by cases h)⟩
    ·have hpick : ∃ g : Nat → List aa, ∀ i, i < len → ∃ cs', W.cells? 0 (a.add (i * (L e).sz)) (L e).sz = some cs' ∧ typed L k e (g i) ∧ kP (eH W) (g i) cs' := by
      refine ⟨fun i => if hi : i < len then Classical.choose (hel i hi) else [], fun i hi => ?_⟩
      simp only [hi, dif_pos]
      exact Classical.choose_spec (hel i hi)
     obtain ⟨g, hg⟩ := hpick
     obtain ⟨cs0, h0, _, hr0⟩ := hg 0 hl
     have hspot : a.spot = none ∧ ∃ c t' fr, W.heap[a.block]? = some (.cells c t' fr) := by
      have hc0 := (World.cells?_some h0).2.2 0 hpos
      have hln := (World.cells?_some h0).2.1
      have ha : (a.add (0 * (L e).sz)).add 0 = a := by simp [Addr.add]
      rw [ha, List.getElem?_eq_getElem (by omega)] at hc0
      unfold World.cell? at hc0
      split at hc0
      ·rename_i c t' fr hcell
       split at hc0
       ·cases hc0
       ·rename_i hs; exact ⟨by simpa using hs, c, t', fr, hcell⟩
      ·cases hc0
     obtain ⟨hsp, c, t', fr, hblk⟩ := hspot
     have hcell : ∀ i j, i < len → j < (L e).sz → ∀ cs', W.cells? 0 (a.add (i * (L e).sz)) (L e).sz = some cs' → c[a.off + i * (L e).sz + j]? = cs'[j]? := by
      intro i j hi hj cs' hcs
      rw [← (World.cells?_some hcs).2.2 j hj]
      have : ((a.add (i * (L e).sz)).add j) = ⟨a.block, a.off + i * (L e).sz + j, none⟩ := by
       unfold Addr.add
       by_cases h1 : i * (L e).sz = 0 <;> by_cases h2 : j = 0 <;> simp [h1, h2, hsp] <;> try omega
       ·cases a; simp_all
      rw [this]
      simp [World.cell?, hblk]
     obtain ⟨bk, off, sp⟩ := a
     simp only at hsp hblk hcell
     subst hsp
     have hlast : off + len * (L e).sz ≤ c.size := by
      obtain ⟨cs', h1, _, _⟩ := hg (len - 1) (by omega)
      have hln := (World.cells?_some h1).2.1
      have := hcell (len - 1) ((L e).sz - 1) (by omega) (by omega) cs' h1
      rw [List.getElem?_eq_getElem (by omega)] at this
      have hlt := (Array.getElem?_eq_some_iff.1 this).1
      have e1 : len * (L e).sz = (len - 1) * (L e).sz + (L e).sz := by
       rw [← Nat.succ_mul]; congr 1; omega
      omega
     have hl' : ∀ (i : Nat) (x : List aa), ((List.range len).map g)[i]? = some x → i < len ∧ x = g i := by
      intro i x hx
      rw [List.getElem?_map] at hx
      obtain ⟨j, hj, rfl⟩ := Option.map_eq_some_iff.1 hx
      have := List.getElem?_eq_some_iff.1 hj
      obtain ⟨hlt, e⟩ := this
      simp at hlt e
      subst e; exact ⟨hlt, rfl⟩
     refine ⟨[.sl true false ((List.range len).map g)], ⟨_, rfl, by simp; exact Nat.le_trans hle hcap, fun x hx => ?_⟩, .one rfl ?_⟩
     ·obtain ⟨i, hi, rfl⟩ := List.mem_map.1 hx
      obtain ⟨_, _, h1, _⟩ := hg i (by simpa using hi)
      exact h1
     ·have hR := Rep.sl (G := eH W) (o := false) (q := true) (full := false) (l := (List.range len).map g) (cap := m) (b := bk) (off := off) (c := c) (e := t') (fr := fr) (esz := (L e).sz)
       (by simpa using hle) (fun h => by cases h) (by simp; exact Nat.le_trans hle hcap) (.inl trivial) hblk (by simpa using hlast)
       (fun i x hx => by
        obtain ⟨hi, rfl⟩ := hl' i x hx
        obtain ⟨cs', h1, _, h3⟩ := hg i hi
        rw [h3.1, (World.cells?_some h1).2.1])
       (fun i j x y hx hy => by
        obtain ⟨hi, rfl⟩ := hl' i x hx
        obtain ⟨cs', h1, _, h3⟩ := hg i hi
        exact h3.2.1 j y hy)
       (fun i j x y hx hy => by
        obtain ⟨hi, rfl⟩ := hl' i x hx
        obtain ⟨cs', h1, _, h3⟩ := hg i hi
        have hj : j < (L e).sz := by
         have := (List.getElem?_eq_some_iff.1 hy).1
         rw [h3.1, (World.cells?_some h1).2.1] at this; exact this
        have h4 := h3.2.2 j y hy
        have h5 := hcell i j hi hj cs' h1
        have e : c.getD (off + i * (L e).sz + j) undef = cs'.getD j undef := by
         simp only [Array.getD_eq_getD_getElem?, List.getD, h5]
        rw [e]; exact h4)
      simpa using hR
  | struct fs =>
   simp only [hty, Bool.and_eq_true] at hd hdesc ⊢
   cases d <;> simp only [bN, Bool.false_eq_true] at hdesc
   rename_i gs
   obtain ⟨⟨_, hoff⟩, hall⟩ := hd
   obtain ⟨xs, n, _, _, _, hxl, hxs⟩ := DataW.trod_struct hu h
   have hall' := fun f hf => List.all_eq_true.1 hall f hf
   have key : ∀ (fs' : List (Nat × Nat)) (gs' : List Field) (o m : Nat), ba L fs' gs' = true → iq L o fs' (L t).sz = true → (∀ f ∈ fs', cq L k f.2 = true) → (∀ (i : Nat) (f : Field), gs'[i]? = some f → gs[m + i]? = some f) → m + gs'.length = gs.size → o ≤ (L t).sz →
     ∃ ys, rD (typed L k) fs' ys ∧ kP (eH W) ys (cs.drop o) := by
    intro fs'
    induction fs' with
    | nil =>
     intro gs' o m hf ho _ _ _ _
     simp only [iq, beq_iff_eq] at ho
     refine ⟨[], rfl, ?_⟩
     rw [List.drop_eq_nil_of_le (by omega)]; exact .nil
    | cons ft fs' ih =>
     intro gs' o m hf ho hda hgs hm hole
     obtain ⟨fo, ftt⟩ := ft
     cases gs' with
     | nil => simp [ba] at hf
     | cons g gs' =>
      simp only [ba, Bool.and_eq_true, beq_iff_eq, decide_eq_true_eq, bne_iff_ne] at hf
      obtain ⟨⟨⟨⟨h1, h2⟩, h3⟩, h4⟩, h5⟩ := hf
      simp only [iq, Bool.and_eq_true, beq_iff_eq] at ho
      obtain ⟨rfl, ho⟩ := ho
      have hdt : cq L k ftt = true := hda (fo, ftt) (by simp)
      obtain ⟨i2, d2, z2, kn2⟩ := hL.known h4
      have hce := kn2.cellsOf
      have hole2 : fo + (L ftt).sz ≤ (L t).sz := by
       have : ∀ (l : List (Nat × Nat)) (o : Nat), iq L o l (L t).sz = true → o ≤ (L t).sz := by
        intro l
        induction l with
        | nil => intro o h; simp only [iq, beq_iff_eq] at h; omega
        | cons a l ih => intro o h; simp only [iq, Bool.and_eq_true, beq_iff_eq] at h; have := ih _ h.2; omega
       exact this fs' _ ho
      have hg0 := hgs 0 g (by simp)
      have htr := hxs m g (by simpa using hg0)
      rw [h2, hce, h1] at htr
      have hml : m < xs.length := by
       rw [hxl]; have := (Array.getElem?_eq_some_iff.1 hg0).1; simpa using this
      rw [List.getElem?_eq_getElem hml] at htr
      obtain ⟨ys, hy1, hy2⟩ := iG hL k ftt hdt n _ _ htr (by simp [hlen]; omega)
      obtain ⟨zs, hz1, hz2⟩ := ih gs' (fo + (L ftt).sz) (m + 1) h5 ho (fun f hf => hda f (by simp [hf])) (fun i f hi => by have := hgs (i + 1) f (by simpa using hi); rw [show m + 1 + i = m + (i + 1) by omega]; exact this) (by simp at hm ⊢; omega) hole2
      refine ⟨ys ++ zs, ⟨ys, zs, rfl, hy1, hz1⟩, ?_⟩
      have e : cs.drop fo = (cs.drop fo).take (L ftt).sz ++ cs.drop (fo + (L ftt).sz) := by
       rw [← List.drop_drop]; exact (List.take_append_drop _ _).symm
      rw [e]
      exact hy2.append hz2
   have hfd : ba L fs gs.toList = true := hdesc
   have := key fs gs.toList 0 0 hfd hoff hall' (fun i f hi => by simpa using hi) (by simp) (Nat.zero_le _)
   simpa using this
  | array n e =>
   simp only [hty, Bool.and_eq_true, beq_iff_eq] at hd hdesc ⊢
   cases d <;> simp only [bN, Bool.false_eq_true] at hdesc
   rename_i n' e'
   simp only [Bool.and_eq_true, beq_iff_eq] at hdesc
   obtain ⟨⟨rfl, rfl⟩, hne⟩ := hdesc
   obtain ⟨⟨_, hsz⟩, hde⟩ := hd
   obtain ⟨i2, d2, z2, kn2⟩ := hL.known (iN hde)
   have hce := kn2.cellsOf
   obtain ⟨xs, m, _, _, _, hxl, hxs⟩ := DataW.trod_array hu h
   have key : ∀ r o, r + o = n → ∃ ys, rE (typed L k e) r ys ∧ kP (eH W) ys (cs.drop (o * (L e).sz)) := by
    intro r
    induction r with
    | zero =>
     intro o ho
     refine ⟨[], rfl, ?_⟩
     rw [List.drop_eq_nil_of_le (by rw [hlen, ← hsz, ← ho]; simp)]; exact .nil
    | succ r ih =>
     intro o ho
     have htr := hxs o (by omega)
     rw [hce, List.getElem?_eq_getElem (by omega)] at htr
     have hle : o * (L e).sz + (L e).sz ≤ cs.length := by
      rw [hlen, ← hsz, ← Nat.succ_mul]; exact Nat.mul_le_mul_right _ (by omega)
     obtain ⟨ys, hy1, hy2⟩ := iG hL k e hde m _ _ htr (by simp; omega)
     obtain ⟨zs, hz1, hz2⟩ := ih (o + 1) (by omega)
     refine ⟨ys ++ zs, ⟨ys, zs, rfl, hy1, hz1⟩, ?_⟩
     have e' : cs.drop (o * (L e).sz) = (cs.drop (o * (L e).sz)).take (L e).sz ++ cs.drop ((o + 1) * (L e).sz) := by
      rw [Nat.succ_mul, ← List.drop_drop]; exact (List.take_append_drop _ _).symm
     rw [e']
     exact hy2.append hz2
   have := key n 0 (by omega)
   simpa using this
  | _ => simp [hty] at hd
def oK (L : Lay) (t : Nat) (x : aa) : Prop := if (L t).ag then ∃ ys, x = .agg ys ∧ typed L 9 t ys else typed L 9 t [x]
def kJ (L : Lay) : List Nat → List aa → Prop
 | [], xs => xs = []
 | t :: ts, xs => ∃ x r, xs = x :: r ∧ oK L t x ∧ kJ L ts r
theorem yp : ∀ (k t : Nat) (ys : List aa), cq L k t = true → (L t).ag = false → typed L k t ys → ∃ y, ys = [y]
 | 0, t, ys, hd, _, _ => by simp [cq] at hd
 | k + 1, t, ys, hd, ha, h => by
  unfold cq at hd
  unfold typed at h
  cases hty : (L t).ty <;> simp only [hty] at hd h <;> try (cases hd; done)
  case int => obtain ⟨n, rfl, _⟩ := h; exact ⟨_, rfl⟩
  case bool => obtain ⟨n, rfl⟩ := h; exact ⟨_, rfl⟩
  case string => obtain ⟨n, rfl, _⟩ := h; exact ⟨_, rfl⟩
  case slice => obtain ⟨l, rfl, _⟩ := h; exact ⟨_, rfl⟩
  case struct => simp [ha] at hd
  case array => simp [ha] at hd
theorem BL (hL : LOk P L) {t base : Nat} {v : Value} {d : DataW H} {ps : List MemPlace} (hd : cq L 9 t = true) (hok : Value.okWide P W .any base t v) (h : DataW.Trod enc P W 0 (fun _ => true) true t v d ps) :
  ∃ x, oK L t x ∧ Rep (eH W) false x v := by
 obtain ⟨i, ds, z, kn⟩ := hL.known (iN hd)
 have hu := kn.und
 have hag := kn.agg
 obtain ⟨fuel, hf⟩ := h
 unfold Value.okWide at hok
 unfold oK
 cases ha : (L t).ag with
 | true =>
  rw [ha] at hag
  have hv : ∃ cs, v = .agg cs ∧ cs.size = P.cellsOf t := by
   rw [hu] at hok
   cases ds <;> simp only [nP, Bool.false_eq_true] at hag
   all_goals obtain ⟨cs, h1, h2, _⟩ := hok; exact ⟨cs, h1, h2⟩
  obtain ⟨cs, rfl, hsz⟩ := hv
  obtain ⟨ys, h1, h2⟩ := iG hL 9 t hd fuel _ _ hf (by simp [Value.cells, hsz, kn.cellsOf])
  refine ⟨.agg ys, by simp only [if_true]; exact ⟨ys, rfl, h1⟩, .agg (by have := h2.1; simpa [Value.cells] using this.symm) h2.2.1 fun j x hx => ?_⟩
  have := h2.2.2 j x hx
  simpa [Value.cells, List.getD] using this
 | false =>
  rw [ha] at hag
  have hv : v.cells = #[v] := by
   rw [hu] at hok
   cases ds <;> simp only [nP, Bool.true_eq_false] at hag <;> cases v <;> first | rfl | (simp [Cell.okWide, Cell.ok, hu] at hok)
  rw [hv] at hf
  have hs1 : (L t).sz = 1 := by
   unfold cq at hd
   cases hty : (L t).ty <;> simp only [hty] at hd <;> try (cases hd; done)
   all_goals first | (simp [ha] at hd; simp [hd]; done) | (simp [ha] at hd)
  obtain ⟨ys, h1, h2⟩ := iG hL 9 t hd fuel _ _ hf (by simp [hs1])
  obtain ⟨y, rfl⟩ := yp 9 t ys hd ha h1
  refine ⟨y, by simpa using h1, ?_⟩
  have := h2.2.2 0 y rfl
  simpa using this
theorem se (hL : LOk P L) {base : Nat} : ∀ (ts : List Nat) (vs : List Value) (ds : List (DataW H)) (ps : List MemPlace), (∀ t ∈ ts, cq L 9 t = true) → (∀ (j : Nat) t v, ts[j]? = some t → vs[j]? = some v → Value.okWide P W .any base t v) →
  DataW.TrodAll enc P W 0 (fun _ => true) true ts vs ds ps → ∃ xs, kJ L ts xs ∧ vs.length = xs.length ∧ ∀ (j : Nat) (x : aa), xs[j]? = some x → Rep (eH W) false x (vs.getD j undef)
 | [], vs, ds, ps, _, _, h => by
  obtain ⟨rfl, _, _⟩ := trodAll_nil h
  exact ⟨[], rfl, rfl, fun j x hx => by simp at hx⟩
 | t :: ts, vs, ds, ps, hd, hok, h => by
  obtain ⟨v, vs', d, ds', p, q, rfl, rfl, rfl, h1, h2⟩ := trodAll_cons h
  obtain ⟨x, hx1, hx2⟩ := BL hL (hd t (by simp)) (hok 0 t v rfl rfl) h1
  obtain ⟨xs, h3, h4, h5⟩ := se hL ts vs' ds' q (fun t ht => hd t (by simp [ht])) (fun j t v hj hv => hok (j + 1) t v (by simpa using hj) (by simpa using hv)) h2
  refine ⟨x :: xs, ⟨x, xs, rfl, hx1, h3⟩, by simp [h4], fun j y hy => ?_⟩
  cases j with
  | zero => simp at hy; subst hy; simpa using hx2
  | succ j => simpa using h5 j y (by simpa using hy)
theorem lV : ∀ (ts : List Nat) (vs : List Value) (ds : List (DataW H)) (ps : List MemPlace), DataW.TrodAll enc P W 0 (fun _ => true) true ts vs ds ps → ds.length = ts.length
 | [], vs, ds, ps, h => by
  obtain ⟨rfl, rfl, rfl⟩ := trodAll_nil h
  rfl
 | t :: ts, vs, ds, ps, h => by
  obtain ⟨v, vs', d, ds', p, q, rfl, rfl, rfl, h1, h2⟩ := trodAll_cons h
  simp [lV ts _ _ _ h2]
theorem jq (hl : laidOutB P = true) {W' : World} {sp : Nat → Bool} : ∀ (ts : List Nat) (vs : List Value) (ds : List (DataW H)) (ps : List MemPlace), (∀ t ∈ ts, P.readableRec t = true ∧ t < P.types.size) → (∀ p ∈ ps, W.sameAt W' p) → (∀ p ∈ ps, sp p.block = true) →
  DataW.TrodAll enc P W 0 (fun _ => true) true ts vs ds ps → DataW.TrodAll enc P W' 0 sp true ts vs ds ps
 | [], vs, ds, ps, _, _, _, h => by
  obtain ⟨rfl, rfl, rfl⟩ := trodAll_nil h
  exact rfl
 | t :: ts, vs, ds, ps, hr, hs, hsp, h => by
  obtain ⟨v, vs', d, ds', p, q, rfl, rfl, rfl, h1, h2⟩ := trodAll_cons h
  exact ⟨p, q, WideElems.Trod_stays hl (hr t (by simp)).1 (hr t (by simp)).2 h1 (fun x hx => hs x (by simp [hx])) (fun x hx => hsp x (by simp [hx])),
   jq hl ts vs' ds' q (fun t ht => hr t (by simp [ht])) (fun x hx => hs x (by simp [hx])) (fun x hx => hsp x (by simp [hx])) h2, rfl⟩
end
theorem qN (hL : LOk P L) (hl : laidOutB P = true) {fn : Func} {f : Nat} {s : ChangeSpec} {ts : List Nat} {tb : Nat} {apart fresh handsOn again : Bool} (hts : fn.params.toList = ts) (hres : fn.resultTypes = #[tb]) (hb : P.underlying tb = some .bool) (hvars : s.vars = [])
  (hfn : ∀ (H : Type) (ds : List (DataW H)), ds.length = ts.length → s.fn H ds = { results := [.lit (.bool true)], args := ds }) (hread : ts.all (fun t => P.readableRec t && decide (t < P.types.size) && cq L 9 t) = true)
  (h : ∀ xs : List aa, kJ L ts xs → ah P f xs [] fun r _ => r = .bool true)
  (H : Type) (enc : TypeId × Value → H) (W : World) (base : Nat) (args : Array Value) (ds gs : List (DataW H)) (before : List MemPlace)
  (hval : ∀ (j : Nat) t v, fn.params[j]? = some t → args[j]? = some v → Value.okWide P W .any base t v) (hW : DataW.Whole enc P fn.params.toList s.vars false W args.toList ds gs before) (hap : apart = false) (hT : ql W) :
  Calls P f args W fun e W' => ∃ v, e = .returned v ∧ s.post enc P fn apart fresh handsOn again W args v W' := by
 subst hap
 have hW' := hW
 obtain ⟨p, q, hA, hV, hps, hfz, hnd⟩ := hW
 rw [hvars] at hV
 obtain ⟨rfl, rfl⟩ : gs = [] ∧ q = [] := by
  cases gs with
  | nil => exact ⟨rfl, hV⟩
  | cons => exact hV.elim
 simp only [List.append_nil] at hps
 subst hps
 have hr : ∀ t ∈ ts, (P.readableRec t = true ∧ t < P.types.size) ∧ cq L 9 t = true := by
  intro t ht
  have := List.all_eq_true.1 hread t ht
  simpa using this
 have hA' := hA
 rw [hts] at hA'
 have hlen := lV ts _ _ _ hA'
 obtain ⟨xs, h1, h2, h3⟩ := se hL ts args.toList ds before (fun t ht => (hr t ht).2) (fun j t v hj hv => hval j t v (by rw [← hj, ← hts]; simp) (by rw [← hv]; simp)) hA'
 refine ((h xs h1).calls (eH W) W args (wV hT) DK ⟨by simpa using h2, fun j x hx => ?_⟩).mono fun e W' p => ?_
 ·have := (h3 j x hx).up
  simpa [List.getD] using this
 ·obtain ⟨G', cr, r, sto', rfl, hx', hw', _, hrep, rfl⟩ := p
  have hg := ui hx' hw'
  cases hrep
  have hsame : ∀ x ∈ before, W.sameAt W' x := by
   intro x hx
   have hlt := hW'.lt x hx
   have hold : W'.heap[x.block]? = W.heap[x.block]? := by
    have h1 : (eH W).F x.block = some W.heap[x.block] := Array.getElem?_eq_getElem hlt
    have hlt' := hlt
    rw [hw'.F _ _ (hx'.F _ _ h1), Array.getElem?_eq_getElem hlt]
   cases x with
   | cell b off => simp only [World.sameAt, World.cell?]; simp only [MemPlace.block] at hold; rw [hold]
   | map b => exact hold
  refine ⟨_, rfl, Ao (pa := before) (pv := []) hW' (fun _ _ _ => ?_) (fun sp hsp => ?_) (fun _ _ => ?_) (by simp) (World.keptBut_mono (fun _ h => h.elim) hg.1) hg.2 (ok_one hres rfl (okWide_bool_mk hb true))⟩
  ·rw [hfn H _ (by simpa using hlen), hres]
   exact trodAll_cons_mk (shut_bool hb true) trodAll_mk0
  ·rw [hfn H _ (by simpa using hlen), hts]
   simp only [List.append_nil]
   exact jq hl ts _ _ _ (fun t ht => (hr t ht).1) hsame hsp hA'
  ·rw [hfn H _ (by simpa using hlen), hvars]; exact rfl
end Go.Rad
namespace Go.Rad
open Go
theorem iR {α : Type} {F : α → List aa} {P : α → Prop} : ∀ {l : List (List aa)}, (∀ y ∈ l, ∃ a, y = F a ∧ P a) → ∃ bs : List α, l = bs.map F ∧ ∀ a ∈ bs, P a
 | [], _ => ⟨[], rfl, fun a h => by simp at h⟩
 | y :: l, h => by
  obtain ⟨a, rfl, ha⟩ := h y (by simp)
  obtain ⟨bs, rfl, has⟩ := iR (l := l) fun y hy => h y (by simp [hy])
  refine ⟨a :: bs, rfl, fun b hb => ?_⟩
  rcases List.mem_cons.1 hb with rfl | hb
  ·exact ha
  ·exact has b hb
section
variable {L : Lay} {k t : Nat} {y : List aa}
theorem fH {i : IntKind} (ht : (L t).ty = .int i) (h : typed L (k + 1) t y) : ∃ n, y = [.int i n] ∧ fits i n := by
 unfold typed at h; rw [ht] at h; exact h
theorem wH (ht : (L t).ty = .bool) (h : typed L (k + 1) t y) : ∃ b, y = [.bool b] := by
 unfold typed at h; rw [ht] at h; exact h
theorem oJ (ht : (L t).ty = .string) (h : typed L (k + 1) t y) : ∃ s : ByteArray, y = [.str s] ∧ s.size ≤ maxLen := by
 unfold typed at h; rw [ht] at h; exact h
theorem iH {e : Nat} (ht : (L t).ty = .slice e) (h : typed L (k + 1) t y) : ∃ l : List (List aa), y = [.sl true false l] ∧ l.length ≤ maxLen ∧ ∀ x ∈ l, typed L k e x := by
 unfold typed at h; rw [ht] at h; exact h
theorem jb {fs : List (Nat × Nat)} (ht : (L t).ty = .struct fs) (h : typed L (k + 1) t y) : rD (typed L k) fs y := by
 unfold typed at h; rw [ht] at h; exact h
theorem A0 {n e : Nat} (ht : (L t).ty = .array n e) (h : typed L (k + 1) t y) : rE (typed L k e) n y := by
 unfold typed at h; rw [ht] at h; exact h
theorem wI {e : Nat} (ht : (L t).ty = .slice e) (he : (L e).ty = .int .i64) (h : typed L (k + 2) t y) : ∃ l : List Int, y = [.sl true false (ints l)] ∧ l.length ≤ maxLen := by
 obtain ⟨l, rfl, hl, hx⟩ := iH ht h
 obtain ⟨ns, rfl, _⟩ := iR (F := fun n => [aa.int .i64 n]) (P := fun _ => True) fun x hx' => by
  obtain ⟨n, rfl, _⟩ := fH he (hx x hx')
  exact ⟨n, rfl, trivial⟩
 exact ⟨ns, rfl, by simpa using hl⟩
structure mQ (L : Lay) (t : Nat) : Prop where
 ex : ∃ o st l i s w : Nat, (L t).ty = .struct [(0, o), (1, st), (5, l), (6, i), (7, i), (8, s)] ∧ (L o).ty = .int .u8 ∧ (L st).ty = .array 4 w ∧ (L w).ty = .int .u64 ∧ (L l).ty = .slice i ∧ (L i).ty = .int .i64 ∧ (L s).ty = .string
structure yO (L : Lay) (t : Nat) : Prop where
 ex : ∃ s l n : Nat, (L t).ty = .struct [(0, s), (1, l)] ∧ (L s).ty = .string ∧ (L l).ty = .slice n ∧ mQ L n
theorem JN (ha : (L t).ag = false) {x : aa} (h : oK L t x) : typed L 9 t [x] := by
 unfold oK at h; rw [ha] at h; exact h
end
end Go.Rad
namespace Go.Rad
open Go
def av.N (s : av) : aw := ⟨s.a.toNat, s.b.toNat, s.c.toNat, s.d.toNat⟩
def av.okI (s : av) : Prop := fits .u64 s.a ∧ fits .u64 s.b ∧ fits .u64 s.c ∧ fits .u64 s.d
theorem Ak {s : av} (h : s.okI) : s.N.ok ∧ s = s.N.I := by
 obtain ⟨a, b, c, d⟩ := s
 obtain ⟨h1, h2, h3, h4⟩ := h
 obtain ⟨a, rfl, k1⟩ := vN h1
 obtain ⟨b, rfl, k2⟩ := vN h2
 obtain ⟨c, rfl, k3⟩ := vN h3
 obtain ⟨d, rfl, k4⟩ := vN h4
 exact ⟨⟨k1, k2, k3, k4⟩, rfl⟩
section
variable {L : Lay} {k t : Nat} {y : List aa}
theorem DR {e : Nat} (ht : (L t).ty = .array 4 e) (he : (L e).ty = .int .u64) (h : typed L (k + 2) t y) : ∃ s : av, y = s.cells ∧ s.okI := by
 have h := A0 ht h
 obtain ⟨x1, r1, rfl, h1, x2, r2, rfl, h2, x3, r3, rfl, h3, x4, r4, rfl, h4, rfl⟩ := h
 obtain ⟨a, rfl, f1⟩ := fH he h1
 obtain ⟨b, rfl, f2⟩ := fH he h2
 obtain ⟨c, rfl, f3⟩ := fH he h3
 obtain ⟨d, rfl, f4⟩ := fH he h4
 exact ⟨⟨a, b, c, d⟩, rfl, f1, f2, f3, f4⟩
def gC (n : Node) : Prop := (n.name.size ≤ maxLen ∧ n.l.length ≤ maxLen) ∧ n.s.okI
theorem A4 (hn : mQ L t) (h : typed L (k + 3) t y) : ∃ n : Node, y = n.cells ∧ gC n := by
 obtain ⟨o, st, l, i, s, w, h1, h2, h3, h4, h5, h6, h7⟩ := hn.ex
 have h := jb h1 h
 obtain ⟨x1, r1, rfl, p1, x2, r2, rfl, p2, x3, r3, rfl, p3, x4, r4, rfl, p4, x5, r5, rfl, p5, x6, r6, rfl, p6, rfl⟩ := h
 obtain ⟨no, rfl, _⟩ := fH h2 p1
 obtain ⟨ns, rfl, hst⟩ := DR h3 h4 p2
 obtain ⟨nl, rfl, hl⟩ := wI h5 h6 p3
 obtain ⟨nlo, rfl, _⟩ := fH h6 p4
 obtain ⟨nhi, rfl, _⟩ := fH h6 p5
 obtain ⟨nn, rfl, hs⟩ := oJ h7 p6
 exact ⟨⟨no, ns, nl, nlo, nhi, nn⟩, rfl, ⟨hs, hl⟩, hst⟩
theorem qe {e : Nat} (ht : (L t).ty = .slice e) (hn : mQ L e) (h : typed L (k + 4) t y) : ∃ l : List Node, y = [.sl true false (nodes l)] ∧ l.length ≤ maxLen ∧ ∀ n ∈ l, gC n := by
 obtain ⟨l, rfl, hl, hx⟩ := iH ht h
 obtain ⟨ns, rfl, hns⟩ := iR (F := Node.cells) (P := gC) fun x hx' => A4 hn (hx x hx')
 exact ⟨ns, rfl, by simpa using hl, hns⟩
theorem A3 {e : Nat} (ht : (L t).ty = .slice e) (hn : yO L e) (h : typed L (k + 6) t y) : ∃ l : List Df, y = [.sl true false (defs l)] ∧ l.length ≤ maxLen ∧ ∀ d ∈ l, d.name.size ≤ maxLen ∧ d.l.length ≤ maxLen ∧ ∀ n ∈ d.l, gC n := by
 obtain ⟨s, ln, n, h1, h2, h3, h4⟩ := hn.ex
 obtain ⟨l, rfl, hl, hx⟩ := iH ht h
 obtain ⟨ds, rfl, hds⟩ := iR (F := Df.cells) (P := fun d => d.name.size ≤ maxLen ∧ d.l.length ≤ maxLen ∧ ∀ n ∈ d.l, gC n) fun x hx' => by
  have h := jb h1 (hx x hx')
  obtain ⟨x1, r1, rfl, p1, x2, r2, rfl, p2, rfl⟩ := h
  obtain ⟨nn, rfl, hs⟩ := oJ h2 p1
  obtain ⟨dl, rfl, hd1, hd2⟩ := qe h3 h4 p2
  exact ⟨⟨nn, dl⟩, rfl, hs, hd1, hd2⟩
 exact ⟨ds, rfl, by simpa using hl, hds⟩
end
end Go.Rad
namespace Go.Rad
open Go Go.Proofs
set_option linter.all false
set_option maxRecDepth 20000
set_option maxHeartbeats 4000000
theorem y9 (q f : Bool) (l : List Int) (hl : l.length ≤ 1000000) : ah Tryz.prog 82 [.sl q f (ints l)] [] fun r s => r = .sl true false (ints l) ∧ s = [] := by
 refine (mu q f l hl).nH ?_
 rintro r s (⟨rfl, rfl, rfl⟩ | ⟨h, rfl, rfl⟩)
 ·exact .inr (.inl ⟨_, _, _, rfl, rfl, rfl⟩)
 ·exact .inl ⟨5, h, 1, ints l, by simp, rfl, rfl, rfl⟩
def dY (n : Node) : Node := { n with s := (fk n.s.N).I }
def dZ (l : List Node) : List Node := if az l = true then l.map dY else []
theorem Ck (q f : Bool) (l : List Node) (hl : ∀ n ∈ l, n.name.size ≤ maxLen ∧ n.l.length ≤ maxLen) : ah Tryz.prog 52 [.sl q f (nodes l)] [] fun r s => (∃ fl, r = .sl true fl (nodes (dZ l))) ∧ s = [] := by
 refine ah.Ei 0 (vD (P := Tryz.prog) (f := 52) rfl (by kernel_rfl) (by kernel_rfl)) rfl fun hfit => ?_
 have hset : ∀ n ∈ l, n.s.okI := by
  intro n hn
  obtain ⟨m, hm⟩ := List.mem_iff_getElem?.1 hn
  have hm2 : (nodes l)[m]? = some n.cells := by simp [nodes, hm]
  exact ⟨hfit m 1 _ _ _ hm2 rfl, hfit m 2 _ _ _ hm2 rfl, hfit m 3 _ _ _ hm2 rfl, hfit m 4 _ _ _ hm2 rfl⟩
 clear hfit
 have hr := od q f l hl
 refine ah.enter Tryz.func52 rfl (by kernel_rfl) (Nat.le_of_ble_eq_true rfl) ?_; simp only [ai, Nat.reduceAdd]
 cases hok : az l
 ·rw [hok] at hr
  have e : dZ l = [] := by simp [dZ, hok]
  rw [e]
  repeat' (first
 | refine gCt rfl ?_
 | ((first
 | ((first | refine gR fp52 ?_ | refine gD 7 6 [0, 1, 2, 3, 4, 6, 5, 7, 8, 9] fp52 ?_); intro K hK)
 | refine cAl (hr) rfl rfl rfl ?_
 | (refine ab ?_ ?_ <;> intro hb <;> (try simp only [bls] at hb) <;> (try simp only [hb]))
 | refine gRe [] [.tmp 2] rfl rfl ?_) <;> (try simp only [go_sem, simprocAttr]))
 | (refine hK _ _ ?_; clear hK K; simp only [go_sem, simprocAttr])
 | refine gCd ?_ | refine brT ?_ | refine brF ?_
 | (refine brS ?_ ?_ <;> intro hc <;> (try simp only [bls] at hc) <;> (try simp only [hc, bls]))
 | intro _ | refine And.intro ?_ ?_)
  exact ⟨_, rfl⟩
 ·rw [hok] at hr
  have e : dZ l = l.map dY := by simp [dZ, hok]
  have htree := dp hok (fun n h => (hl n h).1)
  rw [e]
  repeat' (first
 | refine gCt rfl ?_
 | ((first
 | ((first | refine gR fp52 ?_ | refine gD 7 6 [0, 1, 2, 3, 4, 6, 5, 7, 8, 9] fp52 ?_); intro K hK)
 | refine cAl (hr) rfl rfl rfl ?_
 | (refine ab ?_ ?_ <;> intro hb <;> (try simp only [bls] at hb) <;> (try simp only [hb]))
 | refine gRe [] [.tmp 2] rfl rfl ?_) <;> (try simp only [go_sem, simprocAttr]))
 | (refine hK _ _ ?_; clear hK K; simp only [go_sem, simprocAttr])
 | refine gCd ?_ | refine brT ?_ | refine brF ?_
 | (refine brS ?_ ?_ <;> intro hc <;> (try simp only [bls] at hc) <;> (try simp only [hc, bls]))
 | intro _ | refine And.intro ?_ ?_)
  refine ae.lQ 3 900 9 (by decide) rfl fun g => ?_
  simp only [go_sem, simprocAttr]
  refine ae.prune [0, 2, 3, 9, 10, 11] ?_; simp only [go_sem, simprocAttr]
  refine ae.al (α := Nat × Nat) (fun x => ([(0, .sl q f (nodes l)), (2, .sl true true []), (3, .osl 900 x.2 0 x.1), (9, .sl q f (nodes l)), (10, .int .i64 l.length), (11, .int .i64 x.1)], [(900, (x.2, .row 9 (nodes ((l.take x.1).map dY))))])) (fun x => x.1 ≤ l.length) (fun x => l.length - x.1) (0, g) (Nat.zero_le _) rfl ?_
  rintro ⟨i, g⟩ hi ih
  simp only at hi ih ⊢
  by_cases hle : i < l.length
  ·have e4 : (i : Int) < l.length := by omega
   have e5 : (0 : Int) ≤ i := by omega
   have hx : l[i]? = some l[i] := List.getElem?_eq_getElem hle
   have hmem := List.getElem_mem hle
   have ht : (l.take (i + 1)).map dY = (l.take i).map dY ++ [dY l[i]] := by simp only [take_one hx, List.map_append, List.map_cons, List.map_nil]
   have hL := htree.1.2
   have hset1 := Ak (hset _ hmem)
   have hlen1 := (htree.2 i _ hx).2.1
   have hlc : (nodes ((l.take i).map dY)).length = i := by simp; omega
   generalize l[i] = n at hx ht hset1 hlen1
   obtain ⟨xo, xs, xl, xlo, xhi, xn⟩ := n
   simp only at hset1 hlen1
   have hf := Ch xs.N hset1.1
   simp only [dY] at ht
   generalize fk xs.N = fs at hf ht
   have hxs := hset1.2
   generalize xs.N = xm at hf hxs
   subst hxs
   obtain ⟨xa, xb, xc, xd⟩ := xm
   have ih := fun g' => ih (i + 1, g') (by simp only; omega) (by simp only; omega)
   simp only [ht] at ih
   generalize (l.take i).map dY = out at ih hlc ⊢
   have hcl := y9 true false xl hlen1
   repeat' (first
 | refine gCt rfl ?_
 | ((first
 | ((first | refine gRg [25] fp52 ?_ | refine gDr 7 [25] 7 uZ fp52 rfl ?_); intro K hK)
 | (refine ⟨_, ah.alone hf rfl rfl rfl, ?_⟩)
 | (refine ⟨_, ah.alone hcl rfl rfl rfl, ?_⟩)
 | (refine ab ?_ ?_ <;> intro hb <;> (try simp only [bls] at hb) <;> (try simp only [hb]))
 | refine gRe [] [.tmp 2] rfl rfl ?_) <;> (try simp only [go_sem, simprocAttr, e4, e5, hx, hlc, Option.some.injEq, forall_eq']))
 | (refine hK _ _ ?_; clear hK K; simp only [go_sem, simprocAttr])
 | refine gCd ?_ | refine brT ?_ | refine brF ?_
 | (refine brS ?_ ?_ <;> intro hc <;> (try simp only [bls] at hc) <;> (try simp only [hc, bls]))
 | intro _ | refine And.intro ?_ ?_)
   all_goals try exact zsd
   refine ae.bC [900] ?_
   simp only [aq, ax, go_sem, simprocAttr]
   refine ae.prune [0, 2, 3, 9, 10, 11] ?_; simp only [go_sem, simprocAttr]
   exact (ih _).cast rfl (by simp)
  ·have e4 : ¬ (i : Int) < l.length := by omega
   have hin : i = l.length := by omega
   subst hin
   rw [List.take_length]
   repeat' (first
 | refine gCt rfl ?_
 | ((first
 | (refine ae.at 10 ?_; (refine ae.freeze 900 rfl ?_; simp only [rfT, rfS, rfO, rf, rf1, true_and, go_sem, simprocAttr]); refine gR fp52 ?_; intro K hK)
 | ((first | refine gR fp52 ?_ | refine gD 7 6 [0, 1, 2, 3, 4, 6, 5, 7, 8, 9] fp52 ?_); intro K hK)
 | (refine ab ?_ ?_ <;> intro hb <;> (try simp only [bls] at hb) <;> (try simp only [hb]))
 | refine gRe [] [.tmp 2] rfl rfl ?_) <;> (try simp only [go_sem, simprocAttr, e4]))
 | (refine hK _ _ ?_; clear hK K; simp only [go_sem, simprocAttr])
 | refine gCd ?_ | refine brT ?_ | refine brF ?_
 | (refine brS ?_ ?_ <;> intro hc <;> (try simp only [bls] at hc) <;> (try simp only [hc, bls]))
 | intro _ | refine And.intro ?_ ?_)
   exact ⟨false, by rw [List.take_of_length_le (by simp)]⟩
theorem Ci (q f : Bool) (l : List Node) (hl : ∀ n ∈ l, n.name.size ≤ maxLen ∧ n.l.length ≤ maxLen) : ah Tryz.prog 52 [.sl q f (nodes l)] [] fun r s => r = .sl true false (nodes (dZ l)) ∧ s = [] := by
 refine (Ck q f l hl).nH ?_
 rintro r s ⟨⟨fl, rfl⟩, rfl⟩
 exact .inr (.inl ⟨_, _, _, rfl, rfl, rfl⟩)
end Go.Rad
namespace Go.Rad
open Go Go.Proofs
set_option linter.all false
set_option maxRecDepth 20000
set_option maxHeartbeats 4000000
theorem AY (nm : ByteArray → List Node → Out) (g g2 g3 : Nat) (dm om : List (ByteArray × aa)) (hdm : fB dm = true) (hom : fB om = true)
  (hlen : ∀ s out, out.length ≤ 1024 → (nm s out).1.length ≤ 1024)
  (hname : ∀ s out g1, s.size ≤ maxLen → out.length ≤ 1024 → ah Tryz.prog 109 [.bx 1000 g 0, .str s] (mq g g1 g2 g3 dm om out) fun r s' => r = .tup [.int .i64 (nm s out).2.1, .int .i64 (nm s out).2.2] ∧ ∃ h1, s' = mq g h1 g2 g3 dm om (nm s out).1)
  (q f : Bool) (l : List Node) (hl : 1 ≤ l.length ∧ l.length ≤ 1000000) (hk : ∀ (i : Nat) (n : Node), l[i]? = some n → n.name.size ≤ maxLen ∧ n.l.length ≤ 1000000 ∧ ∀ k ∈ n.l, 0 ≤ k ∧ k < (i : Int)) (out : List Node) (ho : out.length ≤ 1024) (g1 : Nat) :
  ah Tryz.prog 80 [.bx 1000 g 0, .sl q f (nodes l)] (mq g g1 g2 g3 dm om out) fun r s => r = .tup [.int .i64 (goT nm l [] out).2.1, .int .i64 (goT nm l [] out).2.2] ∧ ∃ h1, s = mq g h1 g2 g3 dm om (goT nm l [] out).1 := by
 simp only [mq, BE] at hname ⊢
 obtain ⟨S, hS⟩ : ∃ S, S = goT nm l [] out := ⟨_, rfl⟩
 rw [← hS]
 refine ah.enter Tryz.func80 rfl (by kernel_rfl) (Nat.le_of_ble_eq_true rfl) ?_; simp only [ai, Nat.reduceAdd]
 repeat' (first
 | refine gCt rfl ?_
 | ((first
 | ((first | refine gR fp80 ?_); intro K hK)
 | (refine ab ?_ ?_ <;> intro hb <;> (try simp only [bls] at hb) <;> (try simp only [hb]))
 | refine gRe [1000, 1001, 1002, 1003] [.tmp 4, .tmp 5] rfl rfl ?_) <;> (try simp only [go_sem, simprocAttr]))
 | (refine hK _ _ ?_; clear hK K; simp only [go_sem, simprocAttr])
 | refine gCd ?_ | refine brT ?_ | refine brF ?_
 | (refine brS ?_ ?_ <;> intro hc <;> (try simp only [bls] at hc) <;> (try simp only [hc, bls]))
 | intro _ | refine And.intro ?_ ?_)
 all_goals try exact zsd
 rename_i h12
 refine ae.prune [0, 1, 6, 13, 14, 15] ?_; simp only [go_sem, simprocAttr]
 refine ae.al (α := Nat × List Int × List Node × Nat) (fun x => ([(0, .bx 1000 g 0), (1, .sl q f (nodes l)), (6, .osl 12 h12 0 l.length), (13, .sl q f (nodes l)), (14, .int .i64 l.length), (15, .int .i64 x.1)],
   [(12, h12, .row 1 (ints (x.2.1 ++ List.replicate (l.length - x.1) 0))), (1000, g, .box [.map 1002 g2, .map 1003 g3, .osl 1001 x.2.2.2 0 x.2.2.1.length]), (1001, x.2.2.2, .row 9 (nodes x.2.2.1)), (1002, g2, .mp dm), (1003, g3, .mp om)]))
  (fun x => x.1 ≤ l.length ∧ x.2.1.length = x.1 ∧ x.2.2.1.length ≤ 1024 ∧ S = goT nm (l.drop x.1) x.2.1 x.2.2.1) (fun x => l.length - x.1) (0, [], out, g1) ⟨Nat.zero_le _, rfl, ho, hS⟩ (by simp only [ints, List.nil_append, List.map_replicate, Nat.sub_zero]; rfl) ?_
 rintro ⟨i, A, o, gg⟩ ⟨hi, hA, ho', hrun⟩ ih
 simp only at hi hA ho' hrun ih ⊢
 generalize hW : A ++ List.replicate (l.length - i) 0 = W
 have hWl : W.length = l.length := by subst hW; simp; omega
 by_cases hle : i < l.length
 ·have e4 : (i : Int) < l.length := by omega
  have e5 : (0 : Int) ≤ i := by omega
  have e6 : i < W.length := by omega
  have hx : l[i]? = some l[i] := List.getElem?_eq_getElem hle
  have hm := hk i _ hx
  have hd : l.drop i = l[i] :: l.drop (i + 1) := List.drop_eq_getElem_cons hle
  rw [hd, goT] at hrun
  generalize l[i] = x at hx hm hrun
  have hWi : W[i]? = some 0 := by
   subst hW
   rw [List.getElem?_append_right (by omega), hA, Nat.sub_self, List.getElem?_replicate, if_pos (by omega)]
  have hset : ∀ v, W.set i v = (A ++ [v]) ++ List.replicate (l.length - (i + 1)) 0 := by
   intro v
   subst hW
   rw [List.set_append_right _ _ (by omega), hA, Nat.sub_self, show l.length - i = (l.length - (i + 1)) + 1 by omega, List.replicate_succ, List.set_cons_zero]
   simp
  have hst : (stepT nm x A o).1.length ≤ 1024 := by
   unfold stepT
   split
   ·exact hlen _ _ ho'
   ·exact n7 ho'
  by_cases h6 : x.op = 6
  ·have hs : stepT nm x A o = nm x.name o := by simp [stepT, h6]
   rw [hs] at hst hrun
   have hcall := hname x.name o gg hm.1 ho'
   clear hs hm
   obtain ⟨xo, ⟨xa, xb, xc, xd⟩, xl, xlo, xhi, xn⟩ := x
   simp only at h6 hcall hst hrun
   subst h6
   rcases hres : nm xn o with ⟨o2, v, e⟩
   rw [hres] at hcall hst hrun
   simp only at hcall hst hrun
   by_cases he : e = 0
   ·subst he
    simp only [if_true] at hrun
    repeat' (first
 | refine gCt rfl ?_
 | ((first
 | ((first | refine gR fp80 ?_); intro K hK)
 | (refine ah.use [(1000, 1000), (1001, 1001), (1002, 1002), (1003, 1003)] [] rfl hcall rfl rfl rfl ?_; rintro _ _ ⟨rfl, h1, rfl⟩; refine ⟨.inl rfl, rfl, ?_⟩; simp only [bk, bk2, bk1, bkS, bkO, bw, aH, go_sem, simprocAttr])
 | (refine ab ?_ ?_ <;> intro hb <;> (try simp only [bls] at hb) <;> (try simp only [hb]))
 | refine gRe [1000, 1001, 1002, 1003] [.tmp 4, .tmp 5] rfl rfl ?_) <;> (try simp only [go_sem, simprocAttr, e4, e5, e6, hx, Option.some.injEq, forall_eq']))
 | (refine hK _ _ ?_; clear hK K; simp only [go_sem, simprocAttr])
 | refine gCd ?_ | refine brT ?_ | refine brF ?_
 | (refine brS ?_ ?_ <;> intro hc <;> (try simp only [bls] at hc) <;> (try simp only [hc, bls]))
 | intro _ | refine And.intro ?_ ?_)
    all_goals try exact zsd
    rename_i y hy
    have hy2 : y = [.int .i64 0] := by
     rw [List.getElem?_map, hWi] at hy
     simpa using hy.symm
    subst hy2
    refine ae.bC [12, 1000, 1001, 1002, 1003] ?_
    simp only [aq, ax, go_sem, simprocAttr]
    refine ae.prune [0, 1, 6, 13, 14, 15] ?_; simp only [go_sem, simprocAttr]
    refine ae.cast (ih (i + 1, A ++ [v], o2, h1) ⟨by simp only; omega, by simp [hA], hst, hrun⟩ (by simp only; omega)) rfl ?_
    simp only [← hset v]
    simp [ints, List.map_set]
   ·simp only [if_neg he] at hrun
    subst hrun
    repeat' (first
 | refine gCt rfl ?_
 | ((first
 | ((first | refine gR fp80 ?_); intro K hK)
 | (refine ah.use [(1000, 1000), (1001, 1001), (1002, 1002), (1003, 1003)] [] rfl hcall rfl rfl rfl ?_; rintro _ _ ⟨rfl, h1, rfl⟩; refine ⟨.inl rfl, rfl, ?_⟩; simp only [bk, bk2, bk1, bkS, bkO, bw, aH, go_sem, simprocAttr])
 | (refine ab ?_ ?_ <;> intro hb <;> (try simp only [bls] at hb) <;> (try simp only [hb]))
 | refine gRe [1000, 1001, 1002, 1003] [.tmp 4, .tmp 5] rfl rfl ?_) <;> (try simp only [go_sem, simprocAttr, e4, e5, e6, hx, he, Option.some.injEq, forall_eq']))
 | (refine hK _ _ ?_; clear hK K; simp only [go_sem, simprocAttr])
 | refine gCd ?_ | refine brT ?_ | refine brF ?_
 | (refine brS ?_ ?_ <;> intro hc <;> (try simp only [bls] at hc) <;> (try simp only [hc, bls]))
 | intro _ | refine And.intro ?_ ?_)
    all_goals try exact zsd
  ·have hs : stepT nm x A o = ek x A o := by simp [stepT, h6]
   rw [hs] at hst hrun
   have hcall := Mp x false false W o g gg g2 g3 dm om (fun k hk => by have := hm.2.2 k hk; omega) hm.2.1 (by omega)
   rw [Aq (A := A) (W := W) (fun k hk => by have := hm.2.2 k hk; subst hW; exact qp this.1 (by omega))] at hcall
   clear hs hm
   obtain ⟨xo, ⟨xa, xb, xc, xd⟩, xl, xlo, xhi, xn⟩ := x
   simp only [mq, BE, Node.cells, Node.eJ] at h6 hcall hst hrun
   rcases hres : ek ⟨xo, ⟨xa, xb, xc, xd⟩, xl, xlo, xhi, xn⟩ A o with ⟨o2, v, e⟩
   rw [hres] at hcall hst hrun
   simp only at hcall hst hrun
   by_cases he : e = 0
   ·subst he
    simp only [if_true] at hrun
    repeat' (first
 | refine gCt rfl ?_
 | ((first
 | ((first | refine gR fp80 ?_); intro K hK)
 | (refine ah.use [(1000, 1000), (1001, 1001), (1002, 1002), (1003, 1003)] [12] rfl hcall (pQ rfl rfl ((mH rfl rfl rfl (by simp; omega)).trans ((congrArg (aa.sl false false) (iQ _ _ _)).trans (mG (by rw [List.drop_zero, List.take_of_length_le (by omega)]))))) rfl rfl ?_; rintro _ _ ⟨rfl, h1, rfl⟩; refine ⟨.inr ⟨rfl, by simp only [jz, mX, de, clean, hJ, hdm, hom, Bool.and_self]⟩, rfl, ?_⟩; simp only [bk, bk2, bk1, bkS, bkO, bw, aH, go_sem, simprocAttr])
 | (refine ab ?_ ?_ <;> intro hb <;> (try simp only [bls] at hb) <;> (try simp only [hb]))
 | refine gRe [1000, 1001, 1002, 1003] [.tmp 4, .tmp 5] rfl rfl ?_) <;> (try simp only [go_sem, simprocAttr, e4, e5, e6, hx, h6, Option.some.injEq, forall_eq']))
 | (refine hK _ _ ?_; clear hK K; simp only [go_sem, simprocAttr])
 | refine gCd ?_ | refine brT ?_ | refine brF ?_
 | (refine brS ?_ ?_ <;> intro hc <;> (try simp only [bls] at hc) <;> (try simp only [hc, bls]))
 | intro _ | refine And.intro ?_ ?_)
    all_goals try exact zsd
    rename_i y hy
    have hy2 : y = [.int .i64 0] := by
     rw [List.getElem?_map, hWi] at hy
     simpa using hy.symm
    subst hy2
    refine ae.bC [12, 1000, 1001, 1002, 1003] ?_
    simp only [aq, ax, go_sem, simprocAttr]
    refine ae.prune [0, 1, 6, 13, 14, 15] ?_; simp only [go_sem, simprocAttr]
    refine ae.cast (ih (i + 1, A ++ [v], o2, h1) ⟨by simp only; omega, by simp [hA], hst, hrun⟩ (by simp only; omega)) rfl ?_
    simp only [← hset v]
    simp [ints, List.map_set]
   ·simp only [if_neg he] at hrun
    subst hrun
    repeat' (first
 | refine gCt rfl ?_
 | ((first
 | ((first | refine gR fp80 ?_); intro K hK)
 | (refine ah.use [(1000, 1000), (1001, 1001), (1002, 1002), (1003, 1003)] [12] rfl hcall (pQ rfl rfl ((mH rfl rfl rfl (by simp; omega)).trans ((congrArg (aa.sl false false) (iQ _ _ _)).trans (mG (by rw [List.drop_zero, List.take_of_length_le (by omega)]))))) rfl rfl ?_; rintro _ _ ⟨rfl, h1, rfl⟩; refine ⟨.inr ⟨rfl, by simp only [jz, mX, de, clean, hJ, hdm, hom, Bool.and_self]⟩, rfl, ?_⟩; simp only [bk, bk2, bk1, bkS, bkO, bw, aH, go_sem, simprocAttr])
 | (refine ab ?_ ?_ <;> intro hb <;> (try simp only [bls] at hb) <;> (try simp only [hb]))
 | refine gRe [1000, 1001, 1002, 1003] [.tmp 4, .tmp 5] rfl rfl ?_) <;> (try simp only [go_sem, simprocAttr, e4, e5, e6, hx, he, h6, Option.some.injEq, forall_eq']))
 | (refine hK _ _ ?_; clear hK K; simp only [go_sem, simprocAttr])
 | refine gCd ?_ | refine brT ?_ | refine brF ?_
 | (refine brS ?_ ?_ <;> intro hc <;> (try simp only [bls] at hc) <;> (try simp only [hc, bls]))
 | intro _ | refine And.intro ?_ ?_)
    all_goals try exact zsd
 ·have e4 : ¬ (i : Int) < l.length := by omega
  have hin : i = l.length := by omega
  subst hin
  obtain ⟨m, hm⟩ : ∃ m, l.length = m + 1 := ⟨l.length - 1, by omega⟩
  have e5 : (l.length : Int) - 1 = (m : Nat) := by omega
  have e6 : (m : Int) < l.length := by omega
  have e7 : (0 : Int) ≤ m := by omega
  have e8 : m < W.length := by omega
  have hlast : W[m]? = some (A.getLastD 0) := by
   subst hW
   rw [Nat.sub_self, List.replicate_zero, List.append_nil, List.getLastD_eq_getLast?, List.getLast?_eq_getElem?, show A.length - 1 = m by omega, List.getElem?_eq_getElem (by omega)]
   rfl
  simp only [List.drop_length, goT] at hrun
  subst hrun
  repeat' (first
 | refine gCt rfl ?_
 | ((first
 | ((first | refine gR fp80 ?_); intro K hK)
 | (refine ab ?_ ?_ <;> intro hb <;> (try simp only [bls] at hb) <;> (try simp only [hb]))
 | refine gRe [1000, 1001, 1002, 1003] [.tmp 4, .tmp 5] rfl rfl ?_) <;> (try simp only [go_sem, simprocAttr, e4, e5, e6, e7, e8, hlast, Option.some.injEq, forall_eq']))
 | (refine hK _ _ ?_; clear hK K; simp only [go_sem, simprocAttr])
 | refine gCd ?_ | refine brT ?_ | refine brF ?_
 | (refine brS ?_ ?_ <;> intro hc <;> (try simp only [bls] at hc) <;> (try simp only [hc, bls]))
 | intro _ | refine And.intro ?_ ?_)
  all_goals try exact zsd
end Go.Rad
namespace Go.Rad
open Go Go.Proofs
set_option linter.all false
set_option maxRecDepth 20000
set_option maxHeartbeats 4000000
def re (ds : List Df) (op : List ByteArray) : Nat := (ds.filter fun d => !hasB op d.name).length
theorem Aw {ds : List Df} {op : List ByteArray} {d : Df} {s : ByteArray} (hd : d ∈ ds) (hs : d.name = s) (h : hasB op s = false) : re ds (op ++ [s]) < re ds op := by
 have hle : ∀ ds : List Df, re ds (op ++ [s]) ≤ re ds op := by
  intro ds
  induction ds with
  | nil => exact Nat.le_refl _
  | cons x ds ih =>
   simp only [re, List.filter_cons, hasB, List.any_append] at ih ⊢
   cases h1 : (op.any fun y => decide (y = x.name))
   ·simp only [Bool.false_or]
    split
    ·simp only [Bool.not_false, if_true, List.length_cons]; omega
    ·simp only [Bool.not_false, if_true, List.length_cons]; omega
   ·simp only [Bool.true_or, Bool.not_true, Bool.false_eq_true, if_false]; exact ih
 induction ds with
 | nil => simp at hd
 | cons x ds ih =>
  have ih := ih
  have hle := hle ds
  simp only [re, List.filter_cons] at ih hle ⊢
  rcases List.mem_cons.1 hd with rfl | hd
  ·have e1 : hasB op d.name = false := by rw [hs]; exact h
   have e2 : hasB (op ++ [s]) d.name = true := by simp [hasB, hs]
   simp only [e1, e2, Bool.not_true, Bool.not_false, Bool.false_eq_true, if_false, if_true, List.length_cons]
   omega
  ·have ih := ih hd
   have e : hasB op x.name = true → hasB (op ++ [s]) x.name = true := by
    intro h; simp only [hasB, List.any_append] at h ⊢; rw [h]; rfl
   cases h1 : hasB op x.name
   ·cases h2 : hasB (op ++ [s]) x.name
    ·simp only [Bool.not_false, if_true, List.length_cons]; omega
    ·simp only [Bool.not_true, Bool.not_false, Bool.false_eq_true, if_false, if_true, List.length_cons]; omega
   ·simp only [e h1, Bool.not_true, Bool.false_eq_true, if_false]; exact ih
theorem np {ds : List Df} {s : ByteArray} {d : Df} (h : dJ ds s = some d) : d ∈ ds ∧ d.name = s :=
 ⟨List.mem_of_find?_eq_some h, by simpa using List.find?_some h⟩
theorem I2 (ds : List Df) (hds : ∀ d ∈ ds, oH d.l) (g g2 g3 : Nat) : ∀ (fuel : Nat) (op : List ByteArray), re ds op < fuel → op.length + fuel ≤ 1000000 → ∀ (s : ByteArray) (out : List Node) (g1 : Nat), s.size ≤ maxLen → out.length ≤ 1024 →
  ah Tryz.prog 109 [.bx 1000 g 0, .str s] (mq g g1 g2 g3 (dmap ds) (omap op) out) fun r s' => r = .tup [.int .i64 (aP ds fuel op s out).2.1, .int .i64 (aP ds fuel op s out).2.2] ∧ ∃ h1, s' = mq g h1 g2 g3 (dmap ds) (omap op) (aP ds fuel op s out).1 := by
 intro fuel
 induction fuel with
 | zero => intro op h; omega
 | succ fuel ih =>
  intro op hrem hop s out g1 hs ho
  simp only [mq, BE]
  have hmf := uM ds s
  have hmo := nR op s
  have hol : (omap op).length = op.length := by simp [omap]
  cases hf : dJ ds s with
  | none =>
   have hn : aP ds (fuel + 1) op s out = (out, 0, 60) := by rw [aP, hf]
   rw [hn]
   rw [hf] at hmf
   simp only [Option.map_none] at hmf
   refine ah.enter Tryz.func109 rfl (by kernel_rfl) (Nat.le_of_ble_eq_true rfl) ?_; simp only [ai, Nat.reduceAdd]
   repeat' (first
 | refine gCt rfl ?_
 | ((first
 | ((first | refine gR fp109 ?_); intro K hK)
 | (refine ab ?_ ?_ <;> intro hb <;> (try simp only [bls] at hb) <;> (try simp only [hb]))
 | refine gRe [1000, 1001, 1002, 1003] [.tmp 4, .tmp 5] rfl rfl ?_) <;> (try simp only [go_sem, simprocAttr, hmf]))
 | (refine hK _ _ ?_; clear hK K; simp only [go_sem, simprocAttr])
 | refine gCd ?_ | refine brT ?_ | refine brF ?_
 | (refine brS ?_ ?_ <;> intro hc <;> (try simp only [bls] at hc) <;> (try simp only [hc, bls]))
 | intro _ | refine And.intro ?_ ?_)
   all_goals try exact zsd
  | some d =>
   rw [hf] at hmf
   simp only [Option.map_some] at hmf
   obtain ⟨hd, hdn⟩ := np hf
   cases hb : hasB op s
   ·have hmp := pR (qI.1 hb)
    have hmd := xF (qI.1 hb)
    have hn : aP ds (fuel + 1) op s out = goT (aP ds fuel (op ++ [s])) d.l [] out := by rw [aP, hf]; simp [hb]
    rw [hn]
    rw [hb] at hmo
    simp only [Bool.false_eq_true, if_false] at hmo
    have hcall := fun g1 => AY (aP ds fuel (op ++ [s])) g g2 g3 (dmap ds) (omap (op ++ [s])) (mZ ds) (nf _) (fun s out h => fV ds fuel _ s out h)
     (fun s' out g1 h1 h2 => ih (op ++ [s]) (by have := Aw hd hdn hb; omega) (by simp; omega) s' out g1 h1 h2) true false d.l (hds d hd).1 (hds d hd).2 out ho g1
    refine ah.enter Tryz.func109 rfl (by kernel_rfl) (Nat.le_of_ble_eq_true rfl) ?_; simp only [ai, Nat.reduceAdd]
    repeat' (first
 | refine gCt rfl ?_
 | ((first
 | (refine ae.at 7 ?_; refine ae.xW gX [] 5 fp109 rfl rfl rfl (by kernel_rfl) ?_; intro K hK; simp only [hmf, hmo, hmp, hmd, go_sem, simprocAttr])
 | (refine ae.retD gX [1000, 1001, 1002, 1003] [.tmp 4, .tmp 5] rfl (by kernel_rfl) ?_; simp only [ky])
 | ((first | refine gR fp109 ?_); intro K hK)
 | (refine ah.mono (hcall _) ?_; rintro _ _ ⟨rfl, h1, rfl⟩)
 | (refine ab ?_ ?_ <;> intro hb <;> (try simp only [bls] at hb) <;> (try simp only [hb]))
 | refine gRe [1000, 1001, 1002, 1003] [.tmp 4, .tmp 5] rfl rfl ?_) <;> (try simp only [go_sem, simprocAttr, hmf, hmo, hmp, hmd, hol]))
 | (refine hK _ _ ?_; clear hK K; simp only [go_sem, simprocAttr])
 | refine gCd ?_ | refine brT ?_ | refine brF ?_
 | (refine brS ?_ ?_ <;> intro hc <;> (try simp only [bls] at hc) <;> (try simp only [hc, bls]))
 | intro _ | refine And.intro ?_ ?_)
    all_goals try exact zsd
   ·have hn : aP ds (fuel + 1) op s out = (out, 0, 61) := by rw [aP, hf]; simp [hb]
    rw [hn]
    rw [hb] at hmo
    simp only [if_true] at hmo
    refine ah.enter Tryz.func109 rfl (by kernel_rfl) (Nat.le_of_ble_eq_true rfl) ?_; simp only [ai, Nat.reduceAdd]
    repeat' (first
 | refine gCt rfl ?_
 | ((first
 | ((first | refine gR fp109 ?_); intro K hK)
 | (refine ab ?_ ?_ <;> intro hb <;> (try simp only [bls] at hb) <;> (try simp only [hb]))
 | refine gRe [1000, 1001, 1002, 1003] [.tmp 4, .tmp 5] rfl rfl ?_) <;> (try simp only [go_sem, simprocAttr, hmf, hmo]))
 | (refine hK _ _ ?_; clear hK K; simp only [go_sem, simprocAttr])
 | refine gCd ?_ | refine brT ?_ | refine brF ?_
 | (refine brS ?_ ?_ <;> intro hc <;> (try simp only [bls] at hc) <;> (try simp only [hc, bls]))
 | intro _ | refine And.intro ?_ ?_)
    all_goals try exact zsd
end Go.Rad
namespace Go.Rad
open Go Go.Proofs
set_option linter.all false
set_option maxRecDepth 20000
set_option maxHeartbeats 4000000
def ze (d : Df) : Prop := d.name.size ≤ maxLen ∧ ∀ n ∈ d.l, n.name.size ≤ maxLen ∧ n.l.length ≤ maxLen
theorem te (q f : Bool) (ds : List Df) (hl : ds.length ≤ 1000000) (hd : ∀ d ∈ ds, ze d) : ah Tryz.prog 53 [.sl q f (defs ds)] [] fun r s => r = .bool (bz [] ds) ∧ s = [] := by
 obtain ⟨S, hS⟩ : ∃ S, S = bz [] ds := ⟨_, rfl⟩
 rw [← hS]
 refine ah.enter Tryz.func53 rfl (by kernel_rfl) (Nat.le_of_ble_eq_true rfl) ?_; simp only [ai, Nat.reduceAdd]
 repeat' (first
 | refine gCt rfl ?_
 | ((first
 | ((first | refine gR fp53 ?_); intro K hK)
 | (refine ab ?_ ?_ <;> intro hb <;> (try simp only [bls] at hb) <;> (try simp only [hb]))
 | refine gRe [] [.tmp 2] rfl rfl ?_) <;> (try simp only [go_sem, simprocAttr]))
 | (refine hK _ _ ?_; clear hK K; simp only [go_sem, simprocAttr])
 | refine gCd ?_ | refine brT ?_ | refine brF ?_
 | (refine brS ?_ ?_ <;> intro hc <;> (try simp only [bls] at hc) <;> (try simp only [hc, bls]))
 | intro _ | refine And.intro ?_ ?_)
 all_goals try exact zsd
 rename_i h6
 refine ae.prune [0, 2, 3, 7, 8, 9] ?_; simp only [go_sem, simprocAttr]
 refine ae.al (α := Nat × List ByteArray) (fun x => ([(0, .sl q f (defs ds)), (2, .bool false), (3, .map 6 h6), (7, .sl q f (defs ds)), (8, .int .i64 ds.length), (9, .int .i64 x.1)], [(6, h6, .mp (omap x.2))]))
  (fun x => x.1 ≤ ds.length ∧ x.2.length = x.1 ∧ S = bz x.2 (ds.drop x.1)) (fun x => ds.length - x.1) (0, []) ⟨Nat.zero_le _, rfl, hS⟩ rfl ?_
 rintro ⟨i, seen⟩ ⟨hi, hsl, hrun⟩ ih
 simp only at hi hsl hrun ih ⊢
 by_cases hle : i < ds.length
 ·have e4 : (i : Int) < ds.length := by omega
  have e5 : (0 : Int) ≤ i := by omega
  have hx : ds[i]? = some ds[i] := List.getElem?_eq_getElem hle
  have hm := hd ds[i] (List.getElem_mem hle)
  have hdr : ds.drop i = ds[i] :: ds.drop (i + 1) := List.drop_eq_getElem_cons hle
  rw [hdr, bz] at hrun
  generalize ds[i] = x at hx hm hrun
  obtain ⟨xn, xl⟩ := x
  obtain ⟨hm1, hm2⟩ := hm
  simp only at hm1 hm2 hrun
  have hmo := nR seen xn
  have hol : (omap seen).length = seen.length := by simp [omap]
  have hn := mA xn hm1
  have hr := od true false xl hm2
  by_cases hc : hasB seen xn = true ∨ bl xn = false ∨ az xl = false
  ·rw [if_pos hc] at hrun
   subst hrun
   rcases hc with h | h | h
   ·rw [h] at hmo
    simp only [if_true] at hmo
    repeat' (first
 | refine gCt rfl ?_
 | ((first
 | ((first | refine gR fp53 ?_); intro K hK)
 | refine cAl (hn) rfl rfl rfl ?_
 | refine cAl (hr) rfl rfl rfl ?_
 | (refine ab ?_ ?_ <;> intro hb <;> (try simp only [bls] at hb) <;> (try simp only [hb]))
 | refine gRe [] [.tmp 2] rfl rfl ?_) <;> (try simp only [go_sem, simprocAttr, e4, e5, hx, hmo, Option.some.injEq, forall_eq']))
 | (refine hK _ _ ?_; clear hK K; simp only [go_sem, simprocAttr])
 | refine gCd ?_ | refine brT ?_ | refine brF ?_
 | (refine brS ?_ ?_ <;> intro hc <;> (try simp only [bls] at hc) <;> (try simp only [hc, bls]))
 | intro _ | refine And.intro ?_ ?_)
   ·rw [h] at hn
    cases hb : hasB seen xn <;> rw [hb] at hmo <;> simp only [if_true, Bool.false_eq_true, if_false] at hmo
    all_goals repeat' (first
 | refine gCt rfl ?_
 | ((first
 | ((first | refine gR fp53 ?_); intro K hK)
 | refine cAl (hn) rfl rfl rfl ?_
 | refine cAl (hr) rfl rfl rfl ?_
 | (refine ab ?_ ?_ <;> intro hb <;> (try simp only [bls] at hb) <;> (try simp only [hb]))
 | refine gRe [] [.tmp 2] rfl rfl ?_) <;> (try simp only [go_sem, simprocAttr, e4, e5, hx, hmo, Option.some.injEq, forall_eq']))
 | (refine hK _ _ ?_; clear hK K; simp only [go_sem, simprocAttr])
 | refine gCd ?_ | refine brT ?_ | refine brF ?_
 | (refine brS ?_ ?_ <;> intro hc <;> (try simp only [bls] at hc) <;> (try simp only [hc, bls]))
 | intro _ | refine And.intro ?_ ?_)
   ·rw [h] at hr
    cases hb : hasB seen xn <;> rw [hb] at hmo <;> simp only [if_true, Bool.false_eq_true, if_false] at hmo
    all_goals cases hnn : bl xn <;> rw [hnn] at hn
    all_goals repeat' (first
 | refine gCt rfl ?_
 | ((first
 | ((first | refine gR fp53 ?_); intro K hK)
 | refine cAl (hn) rfl rfl rfl ?_
 | refine cAl (hr) rfl rfl rfl ?_
 | (refine ab ?_ ?_ <;> intro hb <;> (try simp only [bls] at hb) <;> (try simp only [hb]))
 | refine gRe [] [.tmp 2] rfl rfl ?_) <;> (try simp only [go_sem, simprocAttr, e4, e5, hx, hmo, Option.some.injEq, forall_eq']))
 | (refine hK _ _ ?_; clear hK K; simp only [go_sem, simprocAttr])
 | refine gCd ?_ | refine brT ?_ | refine brF ?_
 | (refine brS ?_ ?_ <;> intro hc <;> (try simp only [bls] at hc) <;> (try simp only [hc, bls]))
 | intro _ | refine And.intro ?_ ?_)
  ·rw [if_neg hc] at hrun
   simp only [not_or, Bool.not_eq_true, Bool.not_eq_false] at hc
   obtain ⟨h1, h2, h3⟩ := hc
   rw [h1] at hmo
   simp only [Bool.false_eq_true, if_false] at hmo
   rw [h2] at hn
   rw [h3] at hr
   have hmp := pR (qI.1 h1)
   repeat' (first
 | refine gCt rfl ?_
 | ((first
 | ((first | refine gR fp53 ?_); intro K hK)
 | refine cAl (hn) rfl rfl rfl ?_
 | refine cAl (hr) rfl rfl rfl ?_
 | (refine ab ?_ ?_ <;> intro hb <;> (try simp only [bls] at hb) <;> (try simp only [hb]))
 | refine gRe [] [.tmp 2] rfl rfl ?_) <;> (try simp only [go_sem, simprocAttr, e4, e5, hx, hmo, hmp, hol, Option.some.injEq, forall_eq']))
 | (refine hK _ _ ?_; clear hK K; simp only [go_sem, simprocAttr])
 | refine gCd ?_ | refine brT ?_ | refine brF ?_
 | (refine brS ?_ ?_ <;> intro hc <;> (try simp only [bls] at hc) <;> (try simp only [hc, bls]))
 | intro _ | refine And.intro ?_ ?_)
   all_goals try exact zsd
   refine ae.bC [6] ?_
   simp only [aq, ax, go_sem, simprocAttr]
   refine ae.prune [0, 2, 3, 7, 8, 9] ?_; simp only [go_sem, simprocAttr]
   exact (ih (i + 1, seen ++ [xn]) ⟨by simp only; omega, by simp [hsl], hrun⟩ (by simp only; omega)).cast rfl rfl
 ·have e4 : ¬ (i : Int) < ds.length := by omega
  rw [List.drop_of_length_le (by omega), bz] at hrun
  subst hrun
  repeat' (first
 | refine gCt rfl ?_
 | ((first
 | ((first | refine gR fp53 ?_); intro K hK)
 | (refine ab ?_ ?_ <;> intro hb <;> (try simp only [bls] at hb) <;> (try simp only [hb]))
 | refine gRe [] [.tmp 2] rfl rfl ?_) <;> (try simp only [go_sem, simprocAttr, e4]))
 | (refine hK _ _ ?_; clear hK K; simp only [go_sem, simprocAttr])
 | refine gCd ?_ | refine brT ?_ | refine brF ?_
 | (refine brS ?_ ?_ <;> intro hc <;> (try simp only [bls] at hc) <;> (try simp only [hc, bls]))
 | intro _ | refine And.intro ?_ ?_)
theorem nB (q f q' f' : Bool) (l : List Node) (ds : List Df) (hl : ∀ n ∈ l, n.name.size ≤ maxLen ∧ n.l.length ≤ maxLen) (hdl : ds.length ≤ 900000) (hd : ∀ d ∈ ds, ze d) :
  ah Tryz.prog 51 [.sl q f (nodes l), .sl q' f' (defs ds)] [] fun r s => (∃ fl, r = .tup [.sl true fl (nodes (ay l ds).1), .int .i64 (ay l ds).2]) ∧ s = [] := by
 have hr := od q f l hl
 have hr2 := te q' f' ds (by omega) hd
 refine ah.enter Tryz.func51 rfl (by kernel_rfl) (Nat.le_of_ble_eq_true rfl) ?_; simp only [ai, Nat.reduceAdd]
 by_cases hok : az l = true ∧ bz [] ds = true
 ·obtain ⟨h1, h2⟩ := hok
  have htree := dp h1 (fun n h => (hl n h).1)
  obtain ⟨hf1, hf2⟩ := gG ds [] h2
  have hds : ∀ d ∈ ds, oH d.l := fun d h => dp (hf1 d h).2.2 (fun n hn => ((hd d h).2 n hn).1)
  have hcall := fun g g1 g2 g3 => AY (aP ds (ds.length + 1) []) g g2 g3 (dmap ds) (omap []) (mZ ds) (nf _) (fun s out h => fV ds _ _ s out h)
   (fun s out g1 h1 h2 => I2 ds hds g g2 g3 (ds.length + 1) [] (Nat.lt_succ_of_le (List.length_filter_le _ _)) (by simp; omega) s out g1 h1 h2) q f l htree.1 htree.2 [] (by simp) g1
  have hexp : ay l ds = if (goT (aP ds (ds.length + 1) []) l [] []).2.2 = 0 then ((goT (aP ds (ds.length + 1) []) l [] []).1, 0) else ([], (goT (aP ds (ds.length + 1) []) l [] []).2.2) := by
   rw [ay, if_pos ⟨h1, h2⟩]
  rw [h1] at hr
  rw [h2] at hr2
  rw [hexp]
  rcases hres : goT (aP ds (ds.length + 1) []) l [] [] with ⟨o2, v, e⟩
  rw [hres] at hcall
  simp only at hcall ⊢
  repeat' (first
 | refine gCt rfl ?_
 | ((first
 | (refine ae.at 4 ?_; (refine ae.n0 22 2 901 9 (by decide) rfl rfl (by decide) ?_; intro g901; simp only [List.set_cons_succ, List.set_cons_zero, go_sem, simprocAttr]); refine gR fp51 ?_; intro K hK)
 | ((first | refine gR fp51 ?_ | refine gD 7 8 ro9 fp51 ?_); intro K hK)
 | refine cAl (hr) rfl rfl rfl ?_
 | refine cAl (hr2) rfl rfl rfl ?_
 | (refine ab ?_ ?_ <;> intro hb <;> (try simp only [bls] at hb) <;> (try simp only [hb]))
 | refine gRe [] [.tmp 4, .tmp 5] rfl rfl ?_) <;> (try simp only [go_sem, simprocAttr]))
 | (refine hK _ _ ?_; clear hK K; simp only [go_sem, simprocAttr])
 | refine gCd ?_ | refine brT ?_ | refine brF ?_
 | (refine brS ?_ ?_ <;> intro hc <;> (try simp only [bls] at hc) <;> (try simp only [hc, bls]))
 | intro _ | refine And.intro ?_ ?_)
  all_goals try exact zsd
  rename_i h19 h20 h22
  refine ae.prune [0, 1, 6, 23, 24, 25] ?_; simp only [go_sem, simprocAttr]
  refine ae.al (α := Nat) (fun i => ([(0, .sl q f (nodes l)), (1, .sl q' f' (defs ds)), (6, .bx 22 h22 0), (23, .sl q' f' (defs ds)), (24, .int .i64 ds.length), (25, .int .i64 i)],
   [(19, h19, .mp (dmap (ds.take i))), (20, h20, .mp []), (22, h22, .box [.map 19 h19, .map 20 h20, .osl 901 g901 0 0]), (901, g901, .row 9 [])])) (fun i => i ≤ ds.length) (fun i => ds.length - i) 0 (Nat.zero_le _) rfl ?_
  intro i hi ih
  simp only
  by_cases hle : i < ds.length
  ·have e4 : (i : Int) < ds.length := by omega
   have e5 : (0 : Int) ≤ i := by omega
   have hx : ds[i]? = some ds[i] := List.getElem?_eq_getElem hle
   have ht := take_one hx
   have hne := hf2 i _ hx
   generalize ds[i] = x at hx hne ht
   have hmp := xI hne
   rw [← ht] at hmp
   obtain ⟨xn, xl⟩ := x
   simp only at hmp
   have hol : (dmap (ds.take i)).length = min i ds.length := by simp [dmap]
   repeat' (first
 | refine gCt rfl ?_
 | ((first
 | ((first | refine gR fp51 ?_ | refine gD 7 8 ro9 fp51 ?_); intro K hK)
 | (refine ab ?_ ?_ <;> intro hb <;> (try simp only [bls] at hb) <;> (try simp only [hb]))
 | refine gRe [] [.tmp 4, .tmp 5] rfl rfl ?_) <;> (try simp only [go_sem, simprocAttr, e4, e5, hx, hmp, hol, Option.some.injEq, forall_eq']))
 | (refine hK _ _ ?_; clear hK K; simp only [go_sem, simprocAttr])
 | refine gCd ?_ | refine brT ?_ | refine brF ?_
 | (refine brS ?_ ?_ <;> intro hc <;> (try simp only [bls] at hc) <;> (try simp only [hc, bls]))
 | intro _ | refine And.intro ?_ ?_)
   all_goals try exact zsd
   refine ae.bC [19, 20, 22, 901] ?_
   simp only [aq, ax, go_sem, simprocAttr]
   refine ae.prune [0, 1, 6, 23, 24, 25] ?_; simp only [go_sem, simprocAttr]
   exact (ih (i + 1) (by omega) (by omega)).cast rfl rfl
  ·have e4 : ¬ (i : Int) < ds.length := by omega
   rw [List.take_of_length_le (by omega)]
   have huse := hcall h22 g901 h19 h20
   by_cases he : e = 0
   ·subst he
    simp only [if_true]
    have e9 : ∀ o : List Node, (nodes o).take o.length = nodes o := fun o => List.take_of_length_le (by simp)
    repeat' (first
 | refine gCt rfl ?_
 | ((first
 | (refine ae.at 12 ?_; (refine ae.freeze 901 rfl ?_; simp only [rfT, rfS, rfO, rf, rf1, e9, true_and, go_sem, simprocAttr]); refine gR fp51 ?_; intro K hK)
 | ((first | refine gR fp51 ?_ | refine gD 7 8 ro9 fp51 ?_); intro K hK)
 | (refine ah.use [(1000, 22), (1001, 901), (1002, 19), (1003, 20)] [] rfl huse rfl rfl rfl ?_; rintro _ _ ⟨rfl, h1, rfl⟩; refine ⟨.inl rfl, rfl, ?_⟩; simp only [bk, bk2, bk1, bkS, bkO, bw, aH, go_sem, simprocAttr])
 | (refine ab ?_ ?_ <;> intro hb <;> (try simp only [bls] at hb) <;> (try simp only [hb]))
 | refine gRe [] [.tmp 4, .tmp 5] rfl rfl ?_) <;> (try simp only [go_sem, simprocAttr, e4]))
 | (refine hK _ _ ?_; clear hK K; simp only [go_sem, simprocAttr])
 | refine gCd ?_ | refine brT ?_ | refine brF ?_
 | (refine brS ?_ ?_ <;> intro hc <;> (try simp only [bls] at hc) <;> (try simp only [hc, bls]))
 | intro _ | refine And.intro ?_ ?_)
    exact ⟨_, rfl⟩
   ·simp only [if_neg he]
    repeat' (first
 | refine gCt rfl ?_
 | ((first
 | ((first | refine gR fp51 ?_ | refine gD 7 8 ro9 fp51 ?_); intro K hK)
 | (refine ah.use [(1000, 22), (1001, 901), (1002, 19), (1003, 20)] [] rfl huse rfl rfl rfl ?_; rintro _ _ ⟨rfl, h1, rfl⟩; refine ⟨.inl rfl, rfl, ?_⟩; simp only [bk, bk2, bk1, bkS, bkO, bw, aH, go_sem, simprocAttr])
 | (refine ab ?_ ?_ <;> intro hb <;> (try simp only [bls] at hb) <;> (try simp only [hb]))
 | refine gRe [] [.tmp 4, .tmp 5] rfl rfl ?_) <;> (try simp only [go_sem, simprocAttr, e4, he]))
 | (refine hK _ _ ?_; clear hK K; simp only [go_sem, simprocAttr])
 | refine gCd ?_ | refine brT ?_ | refine brF ?_
 | (refine brS ?_ ?_ <;> intro hc <;> (try simp only [bls] at hc) <;> (try simp only [hc, bls]))
 | intro _ | refine And.intro ?_ ?_)
    exact ⟨_, rfl⟩
 ·have hexp : ay l ds = ([], 1) := by rw [ay, if_neg hok]
  rw [hexp]
  by_cases h1 : az l = true
  ·have h2 : bz [] ds = false := by simpa [h1] using hok
   rw [h1] at hr
   rw [h2] at hr2
   repeat' (first
 | refine gCt rfl ?_
 | ((first
 | ((first | refine gR fp51 ?_ | refine gD 7 8 ro9 fp51 ?_); intro K hK)
 | refine cAl (hr) rfl rfl rfl ?_
 | refine cAl (hr2) rfl rfl rfl ?_
 | (refine ab ?_ ?_ <;> intro hb <;> (try simp only [bls] at hb) <;> (try simp only [hb]))
 | refine gRe [] [.tmp 4, .tmp 5] rfl rfl ?_) <;> (try simp only [go_sem, simprocAttr]))
 | (refine hK _ _ ?_; clear hK K; simp only [go_sem, simprocAttr])
 | refine gCd ?_ | refine brT ?_ | refine brF ?_
 | (refine brS ?_ ?_ <;> intro hc <;> (try simp only [bls] at hc) <;> (try simp only [hc, bls]))
 | intro _ | refine And.intro ?_ ?_)
   exact ⟨_, rfl⟩
  ·rw [show az l = false from by simpa using h1] at hr
   repeat' (first
 | refine gCt rfl ?_
 | ((first
 | ((first | refine gR fp51 ?_ | refine gD 7 8 ro9 fp51 ?_); intro K hK)
 | refine cAl (hr) rfl rfl rfl ?_
 | refine cAl (hr2) rfl rfl rfl ?_
 | (refine ab ?_ ?_ <;> intro hb <;> (try simp only [bls] at hb) <;> (try simp only [hb]))
 | refine gRe [] [.tmp 4, .tmp 5] rfl rfl ?_) <;> (try simp only [go_sem, simprocAttr]))
 | (refine hK _ _ ?_; clear hK K; simp only [go_sem, simprocAttr])
 | refine gCd ?_ | refine brT ?_ | refine brF ?_
 | (refine brS ?_ ?_ <;> intro hc <;> (try simp only [bls] at hc) <;> (try simp only [hc, bls]))
 | intro _ | refine And.intro ?_ ?_)
   exact ⟨_, rfl⟩
end Go.Rad
