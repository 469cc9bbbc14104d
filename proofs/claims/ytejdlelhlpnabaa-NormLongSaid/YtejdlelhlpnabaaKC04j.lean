/- Contracts: the document's reader of patterns: rows; a pattern. -/
import Derived.Test.YtejdlelhlpnabaaKC04i
set_option linter.all false
namespace Go.Rad
open Go Go.Proofs
set_option linter.unusedSimpArgs false
set_option maxRecDepth 20000
set_option maxHeartbeats 4000000
attribute [local go_sem] vc_nil vc_move vc_assign vc_pick vc_alloc vc_box vc_build vc_buildSlice vc_load vc_store vc_nilCheck vc_bin_tmp vc_bin_int vc_bin_bool vc_bin_str vc_bin_agg vc_eqNil vc_neNil vc_unOp vc_convert vc_makeFunc vc_makeMap vc_makeSlice vc_slice vc_fieldAddr vc_field vc_indexAddr vc_index vc_lookup vc_mapUpdate vc_extract vc_builtin vc_call vc_guard gd_tt gd_ff gd_tf gd_ft gd_none pk_t pk_f nc_bx nc_loc nc_ref nc_fn cl_fn cl_fq kv_ap kvs_ap kvs_nil kvc_ap frq_ff frq_osl frO_row frq_sl frq_int frq_tup ks_ap kb_ap kb_ap' put_some put_none ev_tmp ev_const ev_func oc_int oc_bool oc_str oc_nil oc_sl oc_map oc_fn oc_agg oc1uint oc1ubool oc1ustr oc1unil oc1usl lk_hit lk_miss sget_hit sget_miss sget_nil sput_nil sput_hit sput_lt sput_gt vcRes_nil vcRes_tmp vcRes_cell retv_one retv_nil retv_more sdel_nil sdel_hit sdel_miss ld_bx ld_loc ld_ref ldB_box ldR_map mkv_ag mkv_one st_bx st_loc sn_bx sn_loc nr_sl nr_int nr_bool nr_str nr_ref nr_nil nr_nilfn nr_nilmap nr_fn nv_agg nv_sl nv_int nv_bool nv_str nv_ref nv_nil nv_fn stB_box stR_row fd_eq fdA_bx fdA_loc fdA_ref foff_st fo_eq foA_agg ix_eq ixA_osl ixO_row ixA_map ixA_abx ixA_aloc ixA_aref iv_eq ivA_str ivA_agg ex_tup ln_eq lnA_str lnA_sl lnA_osl lnA_arr bl_len bl_append bl_max bl_min el_sl el_osl elO_all elO_one elO_row ap_eq apA_sl apE_osl apO_row apE_nil mk_eq mkA_sl bs_eq bsA_sl bsC_some fc_nil fc_st fc_arr fc_sl fcA_some bb_eql bb_neq ba_eql ba_neq eqA_arr eqI_int eqN_some io_nil io_cons io_map ar_i64 ar_u8 ar_u16 ar_u32 ar_u64 ar_i32 un_not un_neg un_xor sl_eq slA_str slA_sl slA_osl ia_none ia_some sf_none sf_some cv_eq cvA_int cvA_str lu_eq luA_map luO_mp lv_some lv_none mu_eq muA_map muO_mp vn_sl vn_osl co_agg co_nil co_nilmap co_nilfn iw_agg iw_nil iw_nilmap iw_nilfn fz_nil fz_fn fz_osl ch_zero ch_succ ch_one sp_eq bi_add bi_sub bi_mul bi_quo bi_rem bi_and bi_or bi_xor bi_andNot bi_eql bi_neq bi_lss bi_leq bi_gtr bi_geq ii_add ii_sub ii_mul ii_quo ii_rem ii_and ii_or ii_xor ii_andNot ii_eql ii_neq ii_lss ii_leq ii_gtr ii_geq bi_shl bi_shr sh_shl sh_shr ss_add ss_eql ss_neq ss_lss ss_gtr ss_leq ss_geq co_bool iw_bool fz_bool co_int iw_int fz_int co_str iw_str fz_str co_sl iw_sl fz_sl co_ref iw_ref fz_ref co_osl iw_osl co_bx iw_bx co_loc iw_loc co_map iw_map co_fn iw_fn List.length_map List.map_cons List.map_nil List.append_nil List.nil_append List.cons_append List.length_cons List.length_nil List.getElem?_cons_zero List.getElem?_cons_succ List.getElem?_nil Option.map_some Option.map_none Option.some.injEq List.take_succ_cons List.take_zero List.drop_succ_cons List.drop_zero List.headD_cons List.all_cons List.all_nil List.replicate List.flatten_cons List.flatten_nil List.toList_toArray Array.toList_empty Nat.zero_add Nat.add_zero Nat.succ_eq_add_one Nat.le_refl List.contains_nil List.contains_cons Bool.or_false Bool.or_true Bool.false_or Bool.true_or Option.getD_some Option.getD_none ne_eq not_false_eq_true not_true_eq_false and_true true_and false_and and_self Bool.and_true Bool.true_and Bool.not_false Bool.not_true Bool.false_eq_true Bool.and_self if_true if_false ite_true ite_false exists_eq_left exists_eq_left' exists_and_left exists_eq forall_eq forall_eq' forall_const imp_self implies_true Option.isSome_none Option.isSome_some Option.isNone_none Prod.mk.injEq Ty.slice.injEq Ty.map.injEq Ty.array.injEq false_implies true_implies decide_true decide_false Int.toNat_natCast Int.toNat_zero Int.natCast_nonneg Int.cast_ofNat_Int Int.natCast_zero Int.natCast_one Nat.not_lt_zero Nat.zero_le Nat.zero_lt_succ Nat.zero_mul LL_1 LL_2 LL_3 LL_4 LL_5 LL_6 LL_7 LL_8 LL_9 LL_10 LL_11 LL_12 LL_13 LL_14 LL_15 LL_16 LL_17 LL_18 LL_19 LL_21 LL_22 LL_23 LL_24 LL_25 LL_27 LL_28 LL_29 LL_30 LL_31 LL_32 LL_33 LL_34 LL_35 LL_36 LL_37 LL_38 LL_39 LL_40 LL_41 LL_42 LL_43 LL_44 LL_45 LL_46 LL_47 LL_48 LL_49 LL_50 LL_51 LL_52 LL_53 LL_54 LL_56 LL_57 LL_58 LL_59 LL_60 LL_61 LL_63 LL_64 LL_65 LL_66 LL_67 LL_68 LL_69 LL_70 LL_71 LL_72 LL_73 LL_74 LL_75 LL_76 LL_77 LL_78 LL_79 LL_80 LL_81 LL_82 LL_83 LL_84 LL_85 LL_87 LL_88 LL_90 LL_91 LL_92 LL_93 LL_94 LL_95 LL_97 LL_98 LL_99 LL_100 LL_101 LL_102 LL_103 LL_104 LL_105 LL_106 LL_108 LL_109 LL_110 LL_111 LL_112 LL_113 LL_114 LL_115 LL_116 LL_117 LL_118 LL_119 LL_120 LL_121 LL_122 LL_123 LL_124 LL_125 LL_126 LL_127 LL_128 LL_131 LL_132 LL_133 LL_134 LL_135 LL_136 LL_137 LL_138 LL_139

def rowLoop (s : ByteArray) (F : Nat) : Nat → Rd → List Int → Option (Rd × List Int)
  | 0, _, _ => none
  | f + 1, r, l =>
    if 10000 < l.length ∨ 100000 < r.nodes.length then none
    else if endsB s r = true then some (r, l)
    else if bI s r.p = 124 ∨ bI s r.p = 41 then some (r, l)
    else match itemR s F r with
      | none => none
      | some (q, k) => rowLoop s F f q (l ++ [k])
/-- A row: items, one behind the other. (Of an empty one nothing is told.) -/
def rowR (s : ByteArray) (F : Nat) (r : Rd) : Option (Rd × Int) :=
  match rowLoop s F F r [] with
  | none => none
  | some (q, l) =>
    if q.e ≠ 0 then some (q, 0)
    else match l with
      | [] => none
      | [k] => some (q, k)
      | k :: m :: t => some (putR q ⟨3, ISet.none, k :: m :: t, 0, 0, ByteArray.empty⟩, q.nodes.length)
theorem rowR_c (s : ByteArray) (hs : s.size ≤ 1000000) (F : Nat) (r q : Rd) (v : Int) (g g1 : Nat) (h : rowR s F r = some (q, v)) :
    ACall Try.prog 64 [.bx 1000 g 0] (rsto g g1 s r) fun x s' => x = .int .i64 v ∧ ∃ h1, s' = rsto g h1 s q := by
  unfold rowR at h
  cases hr : rowLoop s F F r [] with
  | none => rw [hr] at h; cases h
  | some w =>
    obtain ⟨⟨wp, wn, wd, we, ww⟩, m⟩ := w
    rw [hr] at h
    simp only at h
    simp only [rsto]
    refine ACall.enter Try.func64 rfl (by kernel_rfl) (Nat.le_of_ble_eq_true rfl) ?_; simp only [initTm, Nat.reduceAdd]
    repeat' (first
    | refine AGood.seq ?_
    | refine AGood.skip ?_
    | refine AGood.block ?_
    | refine AGood.inBlock ?_
    | refine AGood.exit rfl ?_
    | (refine AGood.reg LL_ok [] [0, 2, 3, 30, 40, 43, 49] (by kernel_rfl) ?_; intro K hK; simp only [go_sem, Nat.reduceAdd, Nat.reduceSub, Nat.reduceMul, Nat.reduceLT, Nat.reduceLeDiff, Nat.reduceEqDiff, Nat.reduceDiv, Nat.reduceBEq, Int.reduceNeg, reduceCtorEq, ↓reduceIte, Int.reduceEq, Int.reduceLT, Int.reduceLE, Int.reduceToNat, Int.reduceAdd, Int.reduceSub, Int.reduceMul, Nat.reducePow])
    | (refine AGood.drawn LL_ok mixed [] 27 [0, 1, 2, 3, 4, 5, 6, 7, 8, 9, 10, 11, 12, 13, 14, 15, 16, 17, 18, 19, 20, 21, 22, 23, 24, 25, 26] [0, 2, 3, 30, 40, 43, 49] (by kernel_rfl) (by rfl) ?_; intro K hK; simp only [List.take_succ_cons, List.take_zero, List.drop_succ_cons, List.drop_zero, List.filterMap_cons_some, List.filterMap_nil, go_sem, Nat.reduceAdd, Nat.reduceSub, Nat.reduceMul, Nat.reduceLT, Nat.reduceLeDiff, Nat.reduceEqDiff, Nat.reduceDiv, Nat.reduceBEq, Int.reduceNeg, reduceCtorEq, ↓reduceIte, Int.reduceEq, Int.reduceLT, Int.reduceLE, Int.reduceToNat, Int.reduceAdd, Int.reduceSub, Int.reduceMul, Nat.reducePow])
    | (refine hK _ _ ?_; clear hK K; simp only [prune, List.map_cons, List.map_nil, lk_hit, lk_miss, lk_nil, ne_eq, Nat.reduceEqDiff, not_false_eq_true])
    | (refine gd_split ?_ ?_ <;> intro hb <;> (try simp only [Bool.not_eq_true', Bool.not_eq_false', decide_eq_true_eq, decide_eq_false_iff_not, Bool.not_true, Bool.not_false, Bool.not_eq_true, Bool.not_eq_false] at hb) <;> simp only [go_sem, Nat.reduceAdd, Nat.reduceSub, Nat.reduceMul, Nat.reduceLT, Nat.reduceLeDiff, Nat.reduceEqDiff, Nat.reduceDiv, Nat.reduceBEq, Int.reduceNeg, reduceCtorEq, ↓reduceIte, Int.reduceEq, Int.reduceLT, Int.reduceLE, Int.reduceToNat, Int.reduceAdd, Int.reduceSub, Int.reduceMul, Nat.reducePow, hb])
    | (refine AGood.condT ?_ rfl ?_; focus (simp only [ev_tmp, ev_const, oc_bool, lk_hit, lk_miss, ne_eq, Nat.reduceEqDiff, not_false_eq_true]; done))
    | (refine AGood.condF ?_ rfl ?_; focus (simp only [ev_tmp, ev_const, oc_bool, lk_hit, lk_miss, ne_eq, Nat.reduceEqDiff, not_false_eq_true]; done))
    | (refine AGood.cond (by simp only [ev_tmp, ev_const, oc_bool, lk_hit, lk_miss, ne_eq, Nat.reduceEqDiff, not_false_eq_true]; rfl) rfl ?_ ?_ <;> intro hc <;> (try simp only [Bool.not_eq_true', Bool.not_eq_false', decide_eq_true_eq, decide_eq_false_iff_not, Bool.not_true, Bool.not_false, Bool.not_eq_true, Bool.not_eq_false] at hc) <;> (try simp only [hc, decide_true, decide_false, Bool.not_true, Bool.not_false]))
    | (intro _)
    | (refine And.intro ?_ ?_)
    | (refine AGood.retF LL_ok [1000, 1001] [.tmp 2] rfl ?_; simp only [sf_nil, sf_cons, go_sem, Nat.reduceAdd, Nat.reduceSub, Nat.reduceMul, Nat.reduceLT, Nat.reduceLeDiff, Nat.reduceEqDiff, Nat.reduceDiv, Nat.reduceBEq, Int.reduceNeg, reduceCtorEq, ↓reduceIte, Int.reduceEq, Int.reduceLT, Int.reduceLE, Int.reduceToNat, Int.reduceAdd, Int.reduceSub, Int.reduceMul, Nat.reducePow])
    | (refine AGood.doneF LL_ok [1000, 1001] [.tmp 2] rfl ?_; simp only [sf_nil, sf_cons, go_sem, Nat.reduceAdd, Nat.reduceSub, Nat.reduceMul, Nat.reduceLT, Nat.reduceLeDiff, Nat.reduceEqDiff, Nat.reduceDiv, Nat.reduceBEq, Int.reduceNeg, reduceCtorEq, ↓reduceIte, Int.reduceEq, Int.reduceLT, Int.reduceLE, Int.reduceToNat, Int.reduceAdd, Int.reduceSub, Int.reduceMul, Nat.reducePow]))
    refine AGood.ownTm 3 900 1 (by decide) rfl fun g9 => ?_
    simp only [go_sem, Nat.reduceAdd, Nat.reduceSub, Nat.reduceMul, Nat.reduceLT, Nat.reduceLeDiff, Nat.reduceEqDiff, Nat.reduceDiv, Nat.reduceBEq, Int.reduceNeg, reduceCtorEq, ↓reduceIte, Int.reduceEq, Int.reduceLT, Int.reduceLE, Int.reduceToNat, Int.reduceAdd, Int.reduceSub, Int.reduceMul, Nat.reducePow]
    refine AGood.prune [0, 3] ?_; simp only [prune, List.map_cons, List.map_nil, lk_hit, lk_miss, lk_nil, ne_eq, Nat.reduceEqDiff, not_false_eq_true]
    refine AGood.loopInv (α := Nat × Rd × List Int × Nat × Nat) (fun x => ([(0, .bx 1000 g 0), (3, .osl 900 x.2.2.2.1 0 x.2.2.1.length)], (900, (x.2.2.2.1, .row 1 (ints x.2.2.1))) :: rsto g x.2.2.2.2 s x.2.1)) (fun x => rowLoop s F x.1 x.2.1 x.2.2.1 = some (⟨wp, wn, wd, we, ww⟩, m)) (fun x => x.1) (F, r, [], g9, g1) hr (by simp [sput]) ?_
    rintro ⟨f, ⟨cp, cn, cd, ce, cw⟩, l, h9, hh⟩ q3 ih
    simp only at q3 ih ⊢
    cases f with
    | zero => simp [rowLoop] at q3
    | succ f =>
      rw [rowLoop] at q3
      split at q3
      · cases q3
      rename_i hln
      simp only [not_or] at hln
      obtain ⟨hln1, hln2⟩ := hln
      have hends2 := ends_c s ⟨cp, cn, cd, ce, cw⟩ g hh
      cases he2 : endsB s ⟨cp, cn, cd, ce, cw⟩
      · simp only [he2, Bool.false_eq_true, if_false] at q3
        rw [he2] at hends2
        have he2' := he2
        simp only [endsB, Bool.or_eq_false_iff, decide_eq_false_iff_not, Decidable.not_not] at he2'
        obtain ⟨he3, rfl⟩ := he2'
        have j0 : (0 : Int) ≤ cp := by omega
        have j1 : (cp : Int) < s.size := by omega
        by_cases hc : bI s cp = 124 ∨ bI s cp = 41
        · rw [if_pos hc] at q3
          simp only [Option.some.injEq, Prod.mk.injEq, Rd.mk.injEq] at q3
          obtain ⟨⟨rfl, rfl, rfl, hz, rfl⟩, rfl⟩ := q3
          subst hz
          simp only [rsto] at hends2 ⊢
          rw [if_neg (by simp)] at h
          rcases hc with hc | hc
          · have hw : True := trivial
            cases l with
            | nil => cases h
            | cons k t =>
              cases t with
              | nil =>
                simp only [Option.some.injEq, Prod.mk.injEq] at h
                obtain ⟨rfl, rfl⟩ := h
                generalize hl2 : [k] = l2
                have k1 : ¬ (l2.length : Int) = 0 := by rw [← hl2]; simp
                have k2 : (l2.length : Int) = 1 := by rw [← hl2]; simp
                have k3 : l2[0]? = some k := by rw [← hl2]; rfl
                have k4 : 0 < l2.length := by rw [← hl2]; simp
                repeat' (first
    | refine AGood.seq ?_
    | refine AGood.skip ?_
    | refine AGood.block ?_
    | refine AGood.inBlock ?_
    | refine AGood.exit rfl ?_
    | (refine AGood.reg LL_ok [] [0, 2, 3, 30, 40, 43, 49] (by kernel_rfl) ?_; intro K hK; simp only [go_sem, Nat.reduceAdd, Nat.reduceSub, Nat.reduceMul, Nat.reduceLT, Nat.reduceLeDiff, Nat.reduceEqDiff, Nat.reduceDiv, Nat.reduceBEq, Int.reduceNeg, reduceCtorEq, ↓reduceIte, Int.reduceEq, Int.reduceLT, Int.reduceLE, Int.reduceToNat, Int.reduceAdd, Int.reduceSub, Int.reduceMul, Nat.reducePow, j0, j1, hc, k1, k2, k3, k4, sbyte_bt, Option.some.injEq, forall_eq'])
    | (refine AGood.drawn LL_ok mixed [] 27 [0, 1, 2, 3, 4, 5, 6, 7, 8, 9, 10, 11, 12, 13, 14, 15, 16, 17, 18, 19, 20, 21, 22, 23, 24, 25, 26] [0, 2, 3, 30, 40, 43, 49] (by kernel_rfl) (by rfl) ?_; intro K hK; simp only [List.take_succ_cons, List.take_zero, List.drop_succ_cons, List.drop_zero, List.filterMap_cons_some, List.filterMap_nil, go_sem, Nat.reduceAdd, Nat.reduceSub, Nat.reduceMul, Nat.reduceLT, Nat.reduceLeDiff, Nat.reduceEqDiff, Nat.reduceDiv, Nat.reduceBEq, Int.reduceNeg, reduceCtorEq, ↓reduceIte, Int.reduceEq, Int.reduceLT, Int.reduceLE, Int.reduceToNat, Int.reduceAdd, Int.reduceSub, Int.reduceMul, Nat.reducePow, j0, j1, hc, k1, k2, k3, k4, sbyte_bt, Option.some.injEq, forall_eq'])
    | ((refine ⟨_, ACall.part [(1000, 1000), (1001, 1001)] rfl hends2 rfl rfl rfl rfl rfl rfl, ?_⟩) <;> (try simp only [go_sem, Nat.reduceAdd, Nat.reduceSub, Nat.reduceMul, Nat.reduceLT, Nat.reduceLeDiff, Nat.reduceEqDiff, Nat.reduceDiv, Nat.reduceBEq, Int.reduceNeg, reduceCtorEq, ↓reduceIte, Int.reduceEq, Int.reduceLT, Int.reduceLE, Int.reduceToNat, Int.reduceAdd, Int.reduceSub, Int.reduceMul, Nat.reducePow, j0, j1, hc, k1, k2, k3, k4, sbyte_bt, Option.some.injEq, forall_eq']))
    | (refine hK _ _ ?_; clear hK K; simp only [prune, List.map_cons, List.map_nil, lk_hit, lk_miss, lk_nil, ne_eq, Nat.reduceEqDiff, not_false_eq_true])
    | (refine gd_split ?_ ?_ <;> intro hb <;> (try simp only [Bool.not_eq_true', Bool.not_eq_false', decide_eq_true_eq, decide_eq_false_iff_not, Bool.not_true, Bool.not_false, Bool.not_eq_true, Bool.not_eq_false] at hb) <;> simp only [go_sem, Nat.reduceAdd, Nat.reduceSub, Nat.reduceMul, Nat.reduceLT, Nat.reduceLeDiff, Nat.reduceEqDiff, Nat.reduceDiv, Nat.reduceBEq, Int.reduceNeg, reduceCtorEq, ↓reduceIte, Int.reduceEq, Int.reduceLT, Int.reduceLE, Int.reduceToNat, Int.reduceAdd, Int.reduceSub, Int.reduceMul, Nat.reducePow, j0, j1, hc, k1, k2, k3, k4, sbyte_bt, Option.some.injEq, forall_eq', hb])
    | (refine AGood.condT ?_ rfl ?_; focus (simp only [ev_tmp, ev_const, oc_bool, lk_hit, lk_miss, ne_eq, Nat.reduceEqDiff, not_false_eq_true]; done))
    | (refine AGood.condF ?_ rfl ?_; focus (simp only [ev_tmp, ev_const, oc_bool, lk_hit, lk_miss, ne_eq, Nat.reduceEqDiff, not_false_eq_true]; done))
    | (refine AGood.cond (by simp only [ev_tmp, ev_const, oc_bool, lk_hit, lk_miss, ne_eq, Nat.reduceEqDiff, not_false_eq_true]; rfl) rfl ?_ ?_ <;> intro hc <;> (try simp only [Bool.not_eq_true', Bool.not_eq_false', decide_eq_true_eq, decide_eq_false_iff_not, Bool.not_true, Bool.not_false, Bool.not_eq_true, Bool.not_eq_false] at hc) <;> (try simp only [hc, decide_true, decide_false, Bool.not_true, Bool.not_false]))
    | (intro _)
    | (refine And.intro ?_ ?_)
    | (refine AGood.retF LL_ok [1000, 1001] [.tmp 2] rfl ?_; simp only [sf_nil, sf_cons, go_sem, Nat.reduceAdd, Nat.reduceSub, Nat.reduceMul, Nat.reduceLT, Nat.reduceLeDiff, Nat.reduceEqDiff, Nat.reduceDiv, Nat.reduceBEq, Int.reduceNeg, reduceCtorEq, ↓reduceIte, Int.reduceEq, Int.reduceLT, Int.reduceLE, Int.reduceToNat, Int.reduceAdd, Int.reduceSub, Int.reduceMul, Nat.reducePow])
    | (refine AGood.doneF LL_ok [1000, 1001] [.tmp 2] rfl ?_; simp only [sf_nil, sf_cons, go_sem, Nat.reduceAdd, Nat.reduceSub, Nat.reduceMul, Nat.reduceLT, Nat.reduceLeDiff, Nat.reduceEqDiff, Nat.reduceDiv, Nat.reduceBEq, Int.reduceNeg, reduceCtorEq, ↓reduceIte, Int.reduceEq, Int.reduceLT, Int.reduceLE, Int.reduceToNat, Int.reduceAdd, Int.reduceSub, Int.reduceMul, Nat.reducePow]))
                all_goals first | omega | (unfold bigLen; omega) | exact ⟨_, _, ⟨rfl, rfl⟩, rfl⟩ | exact ⟨_, rfl⟩ | (rename_i hy; simp only [List.mem_singleton] at hy; subst hy; rfl) | skip
              | cons m t =>
                simp only [Option.some.injEq, Prod.mk.injEq] at h
                obtain ⟨rfl, rfl⟩ := h
                generalize hl2 : k :: m :: t = l2
                have k1 : ¬ (l2.length : Int) = 0 := by rw [← hl2]; simp; omega
                have k2 : ¬ (l2.length : Int) = 1 := by rw [← hl2]; simp; omega
                have hput := putR_c s ⟨cp, cn, cd, 0, cw⟩ g hh ⟨3, ISet.none, l2, 0, 0, ByteArray.empty⟩ false (by simp only; omega)
                simp only [rsto, Node.cellsF] at hput
                have e9 : (ints l2).take l2.length = ints l2 := List.take_of_length_le (by simp)
                repeat' (first
    | (refine AGood.at 10 ?_; (refine AGood.freeze 900 rfl ?_; simp only [rfT, rfS, rfO, rf, rf1, e9, true_and, go_sem, Nat.reduceAdd, Nat.reduceSub, Nat.reduceMul, Nat.reduceLT, Nat.reduceLeDiff, Nat.reduceEqDiff, Nat.reduceDiv, Nat.reduceBEq, Int.reduceNeg, reduceCtorEq, ↓reduceIte, Int.reduceEq, Int.reduceLT, Int.reduceLE, Int.reduceToNat, Int.reduceAdd, Int.reduceSub, Int.reduceMul, Nat.reducePow]); (refine AGood.reg LL_ok [] [0, 2, 3, 30, 40, 43, 49] (by kernel_rfl) ?_; intro K hK; simp only [go_sem, Nat.reduceAdd, Nat.reduceSub, Nat.reduceMul, Nat.reduceLT, Nat.reduceLeDiff, Nat.reduceEqDiff, Nat.reduceDiv, Nat.reduceBEq, Int.reduceNeg, reduceCtorEq, ↓reduceIte, Int.reduceEq, Int.reduceLT, Int.reduceLE, Int.reduceToNat, Int.reduceAdd, Int.reduceSub, Int.reduceMul, Nat.reducePow, j0, j1, hc, k1, k2, sbyte_bt, ba_empty, ISet.none]))
    | refine AGood.seq ?_
    | refine AGood.skip ?_
    | refine AGood.block ?_
    | refine AGood.inBlock ?_
    | refine AGood.exit rfl ?_
    | (refine AGood.reg LL_ok [] [0, 2, 3, 30, 40, 43, 49] (by kernel_rfl) ?_; intro K hK; simp only [go_sem, Nat.reduceAdd, Nat.reduceSub, Nat.reduceMul, Nat.reduceLT, Nat.reduceLeDiff, Nat.reduceEqDiff, Nat.reduceDiv, Nat.reduceBEq, Int.reduceNeg, reduceCtorEq, ↓reduceIte, Int.reduceEq, Int.reduceLT, Int.reduceLE, Int.reduceToNat, Int.reduceAdd, Int.reduceSub, Int.reduceMul, Nat.reducePow, j0, j1, hc, k1, k2, sbyte_bt, ba_empty, ISet.none])
    | (refine AGood.drawn LL_ok mixed [] 27 [0, 1, 2, 3, 4, 5, 6, 7, 8, 9, 10, 11, 12, 13, 14, 15, 16, 17, 18, 19, 20, 21, 22, 23, 24, 25, 26] [0, 2, 3, 30, 40, 43, 49] (by kernel_rfl) (by rfl) ?_; intro K hK; simp only [List.take_succ_cons, List.take_zero, List.drop_succ_cons, List.drop_zero, List.filterMap_cons_some, List.filterMap_nil, go_sem, Nat.reduceAdd, Nat.reduceSub, Nat.reduceMul, Nat.reduceLT, Nat.reduceLeDiff, Nat.reduceEqDiff, Nat.reduceDiv, Nat.reduceBEq, Int.reduceNeg, reduceCtorEq, ↓reduceIte, Int.reduceEq, Int.reduceLT, Int.reduceLE, Int.reduceToNat, Int.reduceAdd, Int.reduceSub, Int.reduceMul, Nat.reducePow, j0, j1, hc, k1, k2, sbyte_bt, ba_empty, ISet.none])
    | ((refine ⟨_, ACall.part [(1000, 1000), (1001, 1001)] rfl hends2 rfl rfl rfl rfl rfl rfl, ?_⟩) <;> (try simp only [go_sem, Nat.reduceAdd, Nat.reduceSub, Nat.reduceMul, Nat.reduceLT, Nat.reduceLeDiff, Nat.reduceEqDiff, Nat.reduceDiv, Nat.reduceBEq, Int.reduceNeg, reduceCtorEq, ↓reduceIte, Int.reduceEq, Int.reduceLT, Int.reduceLE, Int.reduceToNat, Int.reduceAdd, Int.reduceSub, Int.reduceMul, Nat.reducePow, j0, j1, hc, k1, k2, sbyte_bt, ba_empty, ISet.none]))
    | ((refine ACall.mono hput ?_; rintro _ _ ⟨rfl, h2, rfl⟩) <;> (try simp only [go_sem, Nat.reduceAdd, Nat.reduceSub, Nat.reduceMul, Nat.reduceLT, Nat.reduceLeDiff, Nat.reduceEqDiff, Nat.reduceDiv, Nat.reduceBEq, Int.reduceNeg, reduceCtorEq, ↓reduceIte, Int.reduceEq, Int.reduceLT, Int.reduceLE, Int.reduceToNat, Int.reduceAdd, Int.reduceSub, Int.reduceMul, Nat.reducePow, j0, j1, hc, k1, k2, sbyte_bt, ba_empty, ISet.none]))
    | (refine hK _ _ ?_; clear hK K; simp only [prune, List.map_cons, List.map_nil, lk_hit, lk_miss, lk_nil, ne_eq, Nat.reduceEqDiff, not_false_eq_true])
    | (refine gd_split ?_ ?_ <;> intro hb <;> (try simp only [Bool.not_eq_true', Bool.not_eq_false', decide_eq_true_eq, decide_eq_false_iff_not, Bool.not_true, Bool.not_false, Bool.not_eq_true, Bool.not_eq_false] at hb) <;> simp only [go_sem, Nat.reduceAdd, Nat.reduceSub, Nat.reduceMul, Nat.reduceLT, Nat.reduceLeDiff, Nat.reduceEqDiff, Nat.reduceDiv, Nat.reduceBEq, Int.reduceNeg, reduceCtorEq, ↓reduceIte, Int.reduceEq, Int.reduceLT, Int.reduceLE, Int.reduceToNat, Int.reduceAdd, Int.reduceSub, Int.reduceMul, Nat.reducePow, j0, j1, hc, k1, k2, sbyte_bt, ba_empty, ISet.none, hb])
    | (refine AGood.condT ?_ rfl ?_; focus (simp only [ev_tmp, ev_const, oc_bool, lk_hit, lk_miss, ne_eq, Nat.reduceEqDiff, not_false_eq_true]; done))
    | (refine AGood.condF ?_ rfl ?_; focus (simp only [ev_tmp, ev_const, oc_bool, lk_hit, lk_miss, ne_eq, Nat.reduceEqDiff, not_false_eq_true]; done))
    | (refine AGood.cond (by simp only [ev_tmp, ev_const, oc_bool, lk_hit, lk_miss, ne_eq, Nat.reduceEqDiff, not_false_eq_true]; rfl) rfl ?_ ?_ <;> intro hc <;> (try simp only [Bool.not_eq_true', Bool.not_eq_false', decide_eq_true_eq, decide_eq_false_iff_not, Bool.not_true, Bool.not_false, Bool.not_eq_true, Bool.not_eq_false] at hc) <;> (try simp only [hc, decide_true, decide_false, Bool.not_true, Bool.not_false]))
    | (intro _)
    | (refine And.intro ?_ ?_)
    | (refine AGood.retF LL_ok [1000, 1001] [.tmp 2] rfl ?_; simp only [sf_nil, sf_cons, go_sem, Nat.reduceAdd, Nat.reduceSub, Nat.reduceMul, Nat.reduceLT, Nat.reduceLeDiff, Nat.reduceEqDiff, Nat.reduceDiv, Nat.reduceBEq, Int.reduceNeg, reduceCtorEq, ↓reduceIte, Int.reduceEq, Int.reduceLT, Int.reduceLE, Int.reduceToNat, Int.reduceAdd, Int.reduceSub, Int.reduceMul, Nat.reducePow])
    | (refine AGood.doneF LL_ok [1000, 1001] [.tmp 2] rfl ?_; simp only [sf_nil, sf_cons, go_sem, Nat.reduceAdd, Nat.reduceSub, Nat.reduceMul, Nat.reduceLT, Nat.reduceLeDiff, Nat.reduceEqDiff, Nat.reduceDiv, Nat.reduceBEq, Int.reduceNeg, reduceCtorEq, ↓reduceIte, Int.reduceEq, Int.reduceLT, Int.reduceLE, Int.reduceToNat, Int.reduceAdd, Int.reduceSub, Int.reduceMul, Nat.reducePow]))
                all_goals first | omega | (unfold bigLen; omega) | exact ⟨_, _, ⟨rfl, rfl⟩, rfl⟩ | exact ⟨_, rfl⟩ | (rename_i hy; simp only [List.mem_singleton] at hy; subst hy; rfl) | skip
          · have hc1 : ¬ bI s cp = 124 := by omega
            cases l with
            | nil => cases h
            | cons k t =>
              cases t with
              | nil =>
                simp only [Option.some.injEq, Prod.mk.injEq] at h
                obtain ⟨rfl, rfl⟩ := h
                generalize hl2 : [k] = l2
                have k1 : ¬ (l2.length : Int) = 0 := by rw [← hl2]; simp
                have k2 : (l2.length : Int) = 1 := by rw [← hl2]; simp
                have k3 : l2[0]? = some k := by rw [← hl2]; rfl
                have k4 : 0 < l2.length := by rw [← hl2]; simp
                repeat' (first
    | refine AGood.seq ?_
    | refine AGood.skip ?_
    | refine AGood.block ?_
    | refine AGood.inBlock ?_
    | refine AGood.exit rfl ?_
    | (refine AGood.reg LL_ok [] [0, 2, 3, 30, 40, 43, 49] (by kernel_rfl) ?_; intro K hK; simp only [go_sem, Nat.reduceAdd, Nat.reduceSub, Nat.reduceMul, Nat.reduceLT, Nat.reduceLeDiff, Nat.reduceEqDiff, Nat.reduceDiv, Nat.reduceBEq, Int.reduceNeg, reduceCtorEq, ↓reduceIte, Int.reduceEq, Int.reduceLT, Int.reduceLE, Int.reduceToNat, Int.reduceAdd, Int.reduceSub, Int.reduceMul, Nat.reducePow, j0, j1, hc1, hc, k1, k2, k3, k4, sbyte_bt, Option.some.injEq, forall_eq'])
    | (refine AGood.drawn LL_ok mixed [] 27 [0, 1, 2, 3, 4, 5, 6, 7, 8, 9, 10, 11, 12, 13, 14, 15, 16, 17, 18, 19, 20, 21, 22, 23, 24, 25, 26] [0, 2, 3, 30, 40, 43, 49] (by kernel_rfl) (by rfl) ?_; intro K hK; simp only [List.take_succ_cons, List.take_zero, List.drop_succ_cons, List.drop_zero, List.filterMap_cons_some, List.filterMap_nil, go_sem, Nat.reduceAdd, Nat.reduceSub, Nat.reduceMul, Nat.reduceLT, Nat.reduceLeDiff, Nat.reduceEqDiff, Nat.reduceDiv, Nat.reduceBEq, Int.reduceNeg, reduceCtorEq, ↓reduceIte, Int.reduceEq, Int.reduceLT, Int.reduceLE, Int.reduceToNat, Int.reduceAdd, Int.reduceSub, Int.reduceMul, Nat.reducePow, j0, j1, hc1, hc, k1, k2, k3, k4, sbyte_bt, Option.some.injEq, forall_eq'])
    | ((refine ⟨_, ACall.part [(1000, 1000), (1001, 1001)] rfl hends2 rfl rfl rfl rfl rfl rfl, ?_⟩) <;> (try simp only [go_sem, Nat.reduceAdd, Nat.reduceSub, Nat.reduceMul, Nat.reduceLT, Nat.reduceLeDiff, Nat.reduceEqDiff, Nat.reduceDiv, Nat.reduceBEq, Int.reduceNeg, reduceCtorEq, ↓reduceIte, Int.reduceEq, Int.reduceLT, Int.reduceLE, Int.reduceToNat, Int.reduceAdd, Int.reduceSub, Int.reduceMul, Nat.reducePow, j0, j1, hc1, hc, k1, k2, k3, k4, sbyte_bt, Option.some.injEq, forall_eq']))
    | (refine hK _ _ ?_; clear hK K; simp only [prune, List.map_cons, List.map_nil, lk_hit, lk_miss, lk_nil, ne_eq, Nat.reduceEqDiff, not_false_eq_true])
    | (refine gd_split ?_ ?_ <;> intro hb <;> (try simp only [Bool.not_eq_true', Bool.not_eq_false', decide_eq_true_eq, decide_eq_false_iff_not, Bool.not_true, Bool.not_false, Bool.not_eq_true, Bool.not_eq_false] at hb) <;> simp only [go_sem, Nat.reduceAdd, Nat.reduceSub, Nat.reduceMul, Nat.reduceLT, Nat.reduceLeDiff, Nat.reduceEqDiff, Nat.reduceDiv, Nat.reduceBEq, Int.reduceNeg, reduceCtorEq, ↓reduceIte, Int.reduceEq, Int.reduceLT, Int.reduceLE, Int.reduceToNat, Int.reduceAdd, Int.reduceSub, Int.reduceMul, Nat.reducePow, j0, j1, hc1, hc, k1, k2, k3, k4, sbyte_bt, Option.some.injEq, forall_eq', hb])
    | (refine AGood.condT ?_ rfl ?_; focus (simp only [ev_tmp, ev_const, oc_bool, lk_hit, lk_miss, ne_eq, Nat.reduceEqDiff, not_false_eq_true]; done))
    | (refine AGood.condF ?_ rfl ?_; focus (simp only [ev_tmp, ev_const, oc_bool, lk_hit, lk_miss, ne_eq, Nat.reduceEqDiff, not_false_eq_true]; done))
    | (refine AGood.cond (by simp only [ev_tmp, ev_const, oc_bool, lk_hit, lk_miss, ne_eq, Nat.reduceEqDiff, not_false_eq_true]; rfl) rfl ?_ ?_ <;> intro hc <;> (try simp only [Bool.not_eq_true', Bool.not_eq_false', decide_eq_true_eq, decide_eq_false_iff_not, Bool.not_true, Bool.not_false, Bool.not_eq_true, Bool.not_eq_false] at hc) <;> (try simp only [hc, decide_true, decide_false, Bool.not_true, Bool.not_false]))
    | (intro _)
    | (refine And.intro ?_ ?_)
    | (refine AGood.retF LL_ok [1000, 1001] [.tmp 2] rfl ?_; simp only [sf_nil, sf_cons, go_sem, Nat.reduceAdd, Nat.reduceSub, Nat.reduceMul, Nat.reduceLT, Nat.reduceLeDiff, Nat.reduceEqDiff, Nat.reduceDiv, Nat.reduceBEq, Int.reduceNeg, reduceCtorEq, ↓reduceIte, Int.reduceEq, Int.reduceLT, Int.reduceLE, Int.reduceToNat, Int.reduceAdd, Int.reduceSub, Int.reduceMul, Nat.reducePow])
    | (refine AGood.doneF LL_ok [1000, 1001] [.tmp 2] rfl ?_; simp only [sf_nil, sf_cons, go_sem, Nat.reduceAdd, Nat.reduceSub, Nat.reduceMul, Nat.reduceLT, Nat.reduceLeDiff, Nat.reduceEqDiff, Nat.reduceDiv, Nat.reduceBEq, Int.reduceNeg, reduceCtorEq, ↓reduceIte, Int.reduceEq, Int.reduceLT, Int.reduceLE, Int.reduceToNat, Int.reduceAdd, Int.reduceSub, Int.reduceMul, Nat.reducePow]))
                all_goals first | omega | (unfold bigLen; omega) | exact ⟨_, _, ⟨rfl, rfl⟩, rfl⟩ | exact ⟨_, rfl⟩ | (rename_i hy; simp only [List.mem_singleton] at hy; subst hy; rfl) | skip
              | cons m t =>
                simp only [Option.some.injEq, Prod.mk.injEq] at h
                obtain ⟨rfl, rfl⟩ := h
                generalize hl2 : k :: m :: t = l2
                have k1 : ¬ (l2.length : Int) = 0 := by rw [← hl2]; simp; omega
                have k2 : ¬ (l2.length : Int) = 1 := by rw [← hl2]; simp; omega
                have hput := putR_c s ⟨cp, cn, cd, 0, cw⟩ g hh ⟨3, ISet.none, l2, 0, 0, ByteArray.empty⟩ false (by simp only; omega)
                simp only [rsto, Node.cellsF] at hput
                have e9 : (ints l2).take l2.length = ints l2 := List.take_of_length_le (by simp)
                repeat' (first
    | (refine AGood.at 10 ?_; (refine AGood.freeze 900 rfl ?_; simp only [rfT, rfS, rfO, rf, rf1, e9, true_and, go_sem, Nat.reduceAdd, Nat.reduceSub, Nat.reduceMul, Nat.reduceLT, Nat.reduceLeDiff, Nat.reduceEqDiff, Nat.reduceDiv, Nat.reduceBEq, Int.reduceNeg, reduceCtorEq, ↓reduceIte, Int.reduceEq, Int.reduceLT, Int.reduceLE, Int.reduceToNat, Int.reduceAdd, Int.reduceSub, Int.reduceMul, Nat.reducePow]); (refine AGood.reg LL_ok [] [0, 2, 3, 30, 40, 43, 49] (by kernel_rfl) ?_; intro K hK; simp only [go_sem, Nat.reduceAdd, Nat.reduceSub, Nat.reduceMul, Nat.reduceLT, Nat.reduceLeDiff, Nat.reduceEqDiff, Nat.reduceDiv, Nat.reduceBEq, Int.reduceNeg, reduceCtorEq, ↓reduceIte, Int.reduceEq, Int.reduceLT, Int.reduceLE, Int.reduceToNat, Int.reduceAdd, Int.reduceSub, Int.reduceMul, Nat.reducePow, j0, j1, hc1, hc, k1, k2, sbyte_bt, ba_empty, ISet.none]))
    | refine AGood.seq ?_
    | refine AGood.skip ?_
    | refine AGood.block ?_
    | refine AGood.inBlock ?_
    | refine AGood.exit rfl ?_
    | (refine AGood.reg LL_ok [] [0, 2, 3, 30, 40, 43, 49] (by kernel_rfl) ?_; intro K hK; simp only [go_sem, Nat.reduceAdd, Nat.reduceSub, Nat.reduceMul, Nat.reduceLT, Nat.reduceLeDiff, Nat.reduceEqDiff, Nat.reduceDiv, Nat.reduceBEq, Int.reduceNeg, reduceCtorEq, ↓reduceIte, Int.reduceEq, Int.reduceLT, Int.reduceLE, Int.reduceToNat, Int.reduceAdd, Int.reduceSub, Int.reduceMul, Nat.reducePow, j0, j1, hc1, hc, k1, k2, sbyte_bt, ba_empty, ISet.none])
    | (refine AGood.drawn LL_ok mixed [] 27 [0, 1, 2, 3, 4, 5, 6, 7, 8, 9, 10, 11, 12, 13, 14, 15, 16, 17, 18, 19, 20, 21, 22, 23, 24, 25, 26] [0, 2, 3, 30, 40, 43, 49] (by kernel_rfl) (by rfl) ?_; intro K hK; simp only [List.take_succ_cons, List.take_zero, List.drop_succ_cons, List.drop_zero, List.filterMap_cons_some, List.filterMap_nil, go_sem, Nat.reduceAdd, Nat.reduceSub, Nat.reduceMul, Nat.reduceLT, Nat.reduceLeDiff, Nat.reduceEqDiff, Nat.reduceDiv, Nat.reduceBEq, Int.reduceNeg, reduceCtorEq, ↓reduceIte, Int.reduceEq, Int.reduceLT, Int.reduceLE, Int.reduceToNat, Int.reduceAdd, Int.reduceSub, Int.reduceMul, Nat.reducePow, j0, j1, hc1, hc, k1, k2, sbyte_bt, ba_empty, ISet.none])
    | ((refine ⟨_, ACall.part [(1000, 1000), (1001, 1001)] rfl hends2 rfl rfl rfl rfl rfl rfl, ?_⟩) <;> (try simp only [go_sem, Nat.reduceAdd, Nat.reduceSub, Nat.reduceMul, Nat.reduceLT, Nat.reduceLeDiff, Nat.reduceEqDiff, Nat.reduceDiv, Nat.reduceBEq, Int.reduceNeg, reduceCtorEq, ↓reduceIte, Int.reduceEq, Int.reduceLT, Int.reduceLE, Int.reduceToNat, Int.reduceAdd, Int.reduceSub, Int.reduceMul, Nat.reducePow, j0, j1, hc1, hc, k1, k2, sbyte_bt, ba_empty, ISet.none]))
    | ((refine ACall.mono hput ?_; rintro _ _ ⟨rfl, h2, rfl⟩) <;> (try simp only [go_sem, Nat.reduceAdd, Nat.reduceSub, Nat.reduceMul, Nat.reduceLT, Nat.reduceLeDiff, Nat.reduceEqDiff, Nat.reduceDiv, Nat.reduceBEq, Int.reduceNeg, reduceCtorEq, ↓reduceIte, Int.reduceEq, Int.reduceLT, Int.reduceLE, Int.reduceToNat, Int.reduceAdd, Int.reduceSub, Int.reduceMul, Nat.reducePow, j0, j1, hc1, hc, k1, k2, sbyte_bt, ba_empty, ISet.none]))
    | (refine hK _ _ ?_; clear hK K; simp only [prune, List.map_cons, List.map_nil, lk_hit, lk_miss, lk_nil, ne_eq, Nat.reduceEqDiff, not_false_eq_true])
    | (refine gd_split ?_ ?_ <;> intro hb <;> (try simp only [Bool.not_eq_true', Bool.not_eq_false', decide_eq_true_eq, decide_eq_false_iff_not, Bool.not_true, Bool.not_false, Bool.not_eq_true, Bool.not_eq_false] at hb) <;> simp only [go_sem, Nat.reduceAdd, Nat.reduceSub, Nat.reduceMul, Nat.reduceLT, Nat.reduceLeDiff, Nat.reduceEqDiff, Nat.reduceDiv, Nat.reduceBEq, Int.reduceNeg, reduceCtorEq, ↓reduceIte, Int.reduceEq, Int.reduceLT, Int.reduceLE, Int.reduceToNat, Int.reduceAdd, Int.reduceSub, Int.reduceMul, Nat.reducePow, j0, j1, hc1, hc, k1, k2, sbyte_bt, ba_empty, ISet.none, hb])
    | (refine AGood.condT ?_ rfl ?_; focus (simp only [ev_tmp, ev_const, oc_bool, lk_hit, lk_miss, ne_eq, Nat.reduceEqDiff, not_false_eq_true]; done))
    | (refine AGood.condF ?_ rfl ?_; focus (simp only [ev_tmp, ev_const, oc_bool, lk_hit, lk_miss, ne_eq, Nat.reduceEqDiff, not_false_eq_true]; done))
    | (refine AGood.cond (by simp only [ev_tmp, ev_const, oc_bool, lk_hit, lk_miss, ne_eq, Nat.reduceEqDiff, not_false_eq_true]; rfl) rfl ?_ ?_ <;> intro hc <;> (try simp only [Bool.not_eq_true', Bool.not_eq_false', decide_eq_true_eq, decide_eq_false_iff_not, Bool.not_true, Bool.not_false, Bool.not_eq_true, Bool.not_eq_false] at hc) <;> (try simp only [hc, decide_true, decide_false, Bool.not_true, Bool.not_false]))
    | (intro _)
    | (refine And.intro ?_ ?_)
    | (refine AGood.retF LL_ok [1000, 1001] [.tmp 2] rfl ?_; simp only [sf_nil, sf_cons, go_sem, Nat.reduceAdd, Nat.reduceSub, Nat.reduceMul, Nat.reduceLT, Nat.reduceLeDiff, Nat.reduceEqDiff, Nat.reduceDiv, Nat.reduceBEq, Int.reduceNeg, reduceCtorEq, ↓reduceIte, Int.reduceEq, Int.reduceLT, Int.reduceLE, Int.reduceToNat, Int.reduceAdd, Int.reduceSub, Int.reduceMul, Nat.reducePow])
    | (refine AGood.doneF LL_ok [1000, 1001] [.tmp 2] rfl ?_; simp only [sf_nil, sf_cons, go_sem, Nat.reduceAdd, Nat.reduceSub, Nat.reduceMul, Nat.reduceLT, Nat.reduceLeDiff, Nat.reduceEqDiff, Nat.reduceDiv, Nat.reduceBEq, Int.reduceNeg, reduceCtorEq, ↓reduceIte, Int.reduceEq, Int.reduceLT, Int.reduceLE, Int.reduceToNat, Int.reduceAdd, Int.reduceSub, Int.reduceMul, Nat.reducePow]))
                all_goals first | omega | (unfold bigLen; omega) | exact ⟨_, _, ⟨rfl, rfl⟩, rfl⟩ | exact ⟨_, rfl⟩ | (rename_i hy; simp only [List.mem_singleton] at hy; subst hy; rfl) | skip
        · rw [if_neg hc] at q3
          simp only [not_or] at hc
          obtain ⟨hc1, hc2⟩ := hc
          cases hi : itemR s F ⟨cp, cn, cd, 0, cw⟩ with
          | none => rw [hi] at q3; cases q3
          | some w =>
            obtain ⟨⟨xp, xn, xd, xe, xw⟩, k⟩ := w
            rw [hi] at q3
            simp only at q3
            have hit := itemR_c s hs F _ _ k g hh hi
            simp only [rsto] at hends2 hit ih ⊢
            repeat' (first
    | refine AGood.seq ?_
    | refine AGood.skip ?_
    | refine AGood.block ?_
    | refine AGood.inBlock ?_
    | refine AGood.exit rfl ?_
    | (refine AGood.reg LL_ok [] [0, 2, 3, 30, 40, 43, 49] (by kernel_rfl) ?_; intro K hK; simp only [go_sem, Nat.reduceAdd, Nat.reduceSub, Nat.reduceMul, Nat.reduceLT, Nat.reduceLeDiff, Nat.reduceEqDiff, Nat.reduceDiv, Nat.reduceBEq, Int.reduceNeg, reduceCtorEq, ↓reduceIte, Int.reduceEq, Int.reduceLT, Int.reduceLE, Int.reduceToNat, Int.reduceAdd, Int.reduceSub, Int.reduceMul, Nat.reducePow, j0, j1, hc1, hc2, sbyte_bt])
    | (refine AGood.drawn LL_ok mixed [] 27 [0, 1, 2, 3, 4, 5, 6, 7, 8, 9, 10, 11, 12, 13, 14, 15, 16, 17, 18, 19, 20, 21, 22, 23, 24, 25, 26] [0, 2, 3, 30, 40, 43, 49] (by kernel_rfl) (by rfl) ?_; intro K hK; simp only [List.take_succ_cons, List.take_zero, List.drop_succ_cons, List.drop_zero, List.filterMap_cons_some, List.filterMap_nil, go_sem, Nat.reduceAdd, Nat.reduceSub, Nat.reduceMul, Nat.reduceLT, Nat.reduceLeDiff, Nat.reduceEqDiff, Nat.reduceDiv, Nat.reduceBEq, Int.reduceNeg, reduceCtorEq, ↓reduceIte, Int.reduceEq, Int.reduceLT, Int.reduceLE, Int.reduceToNat, Int.reduceAdd, Int.reduceSub, Int.reduceMul, Nat.reducePow, j0, j1, hc1, hc2, sbyte_bt])
    | ((refine ⟨_, ACall.part [(1000, 1000), (1001, 1001)] rfl hends2 rfl rfl rfl rfl rfl rfl, ?_⟩) <;> (try simp only [go_sem, Nat.reduceAdd, Nat.reduceSub, Nat.reduceMul, Nat.reduceLT, Nat.reduceLeDiff, Nat.reduceEqDiff, Nat.reduceDiv, Nat.reduceBEq, Int.reduceNeg, reduceCtorEq, ↓reduceIte, Int.reduceEq, Int.reduceLT, Int.reduceLE, Int.reduceToNat, Int.reduceAdd, Int.reduceSub, Int.reduceMul, Nat.reducePow, j0, j1, hc1, hc2, sbyte_bt]))
    | ((refine ACall.use [(1000, 1000), (1001, 1001)] [] rfl hit rfl rfl rfl ?_; rintro _ _ ⟨rfl, h2, rfl⟩; refine ⟨.inl rfl, rfl, ?_⟩; simp only [bk, bk1, bkS, bkO, idOf, delAll, go_sem, Nat.reduceAdd, Nat.reduceSub, Nat.reduceMul, Nat.reduceLT, Nat.reduceLeDiff, Nat.reduceEqDiff, Nat.reduceDiv, Nat.reduceBEq, Int.reduceNeg, reduceCtorEq, ↓reduceIte, Int.reduceEq, Int.reduceLT, Int.reduceLE, Int.reduceToNat, Int.reduceAdd, Int.reduceSub, Int.reduceMul, Nat.reducePow]) <;> (try simp only [go_sem, Nat.reduceAdd, Nat.reduceSub, Nat.reduceMul, Nat.reduceLT, Nat.reduceLeDiff, Nat.reduceEqDiff, Nat.reduceDiv, Nat.reduceBEq, Int.reduceNeg, reduceCtorEq, ↓reduceIte, Int.reduceEq, Int.reduceLT, Int.reduceLE, Int.reduceToNat, Int.reduceAdd, Int.reduceSub, Int.reduceMul, Nat.reducePow, j0, j1, hc1, hc2, sbyte_bt]))
    | (refine hK _ _ ?_; clear hK K; simp only [prune, List.map_cons, List.map_nil, lk_hit, lk_miss, lk_nil, ne_eq, Nat.reduceEqDiff, not_false_eq_true])
    | (refine gd_split ?_ ?_ <;> intro hb <;> (try simp only [Bool.not_eq_true', Bool.not_eq_false', decide_eq_true_eq, decide_eq_false_iff_not, Bool.not_true, Bool.not_false, Bool.not_eq_true, Bool.not_eq_false] at hb) <;> simp only [go_sem, Nat.reduceAdd, Nat.reduceSub, Nat.reduceMul, Nat.reduceLT, Nat.reduceLeDiff, Nat.reduceEqDiff, Nat.reduceDiv, Nat.reduceBEq, Int.reduceNeg, reduceCtorEq, ↓reduceIte, Int.reduceEq, Int.reduceLT, Int.reduceLE, Int.reduceToNat, Int.reduceAdd, Int.reduceSub, Int.reduceMul, Nat.reducePow, j0, j1, hc1, hc2, sbyte_bt, hb])
    | (refine AGood.condT ?_ rfl ?_; focus (simp only [ev_tmp, ev_const, oc_bool, lk_hit, lk_miss, ne_eq, Nat.reduceEqDiff, not_false_eq_true]; done))
    | (refine AGood.condF ?_ rfl ?_; focus (simp only [ev_tmp, ev_const, oc_bool, lk_hit, lk_miss, ne_eq, Nat.reduceEqDiff, not_false_eq_true]; done))
    | (refine AGood.cond (by simp only [ev_tmp, ev_const, oc_bool, lk_hit, lk_miss, ne_eq, Nat.reduceEqDiff, not_false_eq_true]; rfl) rfl ?_ ?_ <;> intro hc <;> (try simp only [Bool.not_eq_true', Bool.not_eq_false', decide_eq_true_eq, decide_eq_false_iff_not, Bool.not_true, Bool.not_false, Bool.not_eq_true, Bool.not_eq_false] at hc) <;> (try simp only [hc, decide_true, decide_false, Bool.not_true, Bool.not_false]))
    | (intro _)
    | (refine And.intro ?_ ?_)
    | (refine AGood.retF LL_ok [1000, 1001] [.tmp 2] rfl ?_; simp only [sf_nil, sf_cons, go_sem, Nat.reduceAdd, Nat.reduceSub, Nat.reduceMul, Nat.reduceLT, Nat.reduceLeDiff, Nat.reduceEqDiff, Nat.reduceDiv, Nat.reduceBEq, Int.reduceNeg, reduceCtorEq, ↓reduceIte, Int.reduceEq, Int.reduceLT, Int.reduceLE, Int.reduceToNat, Int.reduceAdd, Int.reduceSub, Int.reduceMul, Nat.reducePow])
    | (refine AGood.doneF LL_ok [1000, 1001] [.tmp 2] rfl ?_; simp only [sf_nil, sf_cons, go_sem, Nat.reduceAdd, Nat.reduceSub, Nat.reduceMul, Nat.reduceLT, Nat.reduceLeDiff, Nat.reduceEqDiff, Nat.reduceDiv, Nat.reduceBEq, Int.reduceNeg, reduceCtorEq, ↓reduceIte, Int.reduceEq, Int.reduceLT, Int.reduceLE, Int.reduceToNat, Int.reduceAdd, Int.reduceSub, Int.reduceMul, Nat.reducePow]))
            all_goals first | omega | (unfold bigLen; omega) | exact ⟨_, _, ⟨rfl, rfl⟩, rfl⟩ | exact ⟨_, rfl⟩ | (rename_i hy; simp only [List.mem_singleton] at hy; subst hy; rfl) | skip
            rename_i h'
            refine AGood.filt [900, 1000, 1001] ?_
            simp only [sf_cons, sf_nil, go_sem, Nat.reduceAdd, Nat.reduceSub, Nat.reduceMul, Nat.reduceLT, Nat.reduceLeDiff, Nat.reduceEqDiff, Nat.reduceDiv, Nat.reduceBEq, Int.reduceNeg, reduceCtorEq, ↓reduceIte, Int.reduceEq, Int.reduceLT, Int.reduceLE, Int.reduceToNat, Int.reduceAdd, Int.reduceSub, Int.reduceMul, Nat.reducePow]
            refine AGood.prune [0, 3] ?_; simp only [prune, List.map_cons, List.map_nil, lk_hit, lk_miss, lk_nil, ne_eq, Nat.reduceEqDiff, not_false_eq_true]
            refine AGood.cast (ih (f, ⟨xp, xn, xd, xe, xw⟩, l ++ [k], h', h2) q3 (by simp only; omega)) ?_ ?_
            · simp
            · simp
      · simp only [he2, if_true, Option.some.injEq, Prod.mk.injEq, Rd.mk.injEq] at q3
        obtain ⟨⟨rfl, rfl, rfl, rfl, rfl⟩, rfl⟩ := q3
        rw [he2] at hends2
        simp only [rsto] at hends2 ⊢
        by_cases hw : ce = 0
        · subst hw
          rw [if_neg (by simp)] at h
          cases l with
          | nil => cases h
          | cons k t =>
            cases t with
            | nil =>
              simp only [Option.some.injEq, Prod.mk.injEq] at h
              obtain ⟨rfl, rfl⟩ := h
              generalize hl2 : [k] = l2
              have k1 : ¬ (l2.length : Int) = 0 := by rw [← hl2]; simp
              have k2 : (l2.length : Int) = 1 := by rw [← hl2]; simp
              have k3 : l2[0]? = some k := by rw [← hl2]; rfl
              have k4 : 0 < l2.length := by rw [← hl2]; simp
              repeat' (first
    | refine AGood.seq ?_
    | refine AGood.skip ?_
    | refine AGood.block ?_
    | refine AGood.inBlock ?_
    | refine AGood.exit rfl ?_
    | (refine AGood.reg LL_ok [] [0, 2, 3, 30, 40, 43, 49] (by kernel_rfl) ?_; intro K hK; simp only [go_sem, Nat.reduceAdd, Nat.reduceSub, Nat.reduceMul, Nat.reduceLT, Nat.reduceLeDiff, Nat.reduceEqDiff, Nat.reduceDiv, Nat.reduceBEq, Int.reduceNeg, reduceCtorEq, ↓reduceIte, Int.reduceEq, Int.reduceLT, Int.reduceLE, Int.reduceToNat, Int.reduceAdd, Int.reduceSub, Int.reduceMul, Nat.reducePow, he2, k1, k2, k3, k4, sbyte_bt, Option.some.injEq, forall_eq'])
    | (refine AGood.drawn LL_ok mixed [] 27 [0, 1, 2, 3, 4, 5, 6, 7, 8, 9, 10, 11, 12, 13, 14, 15, 16, 17, 18, 19, 20, 21, 22, 23, 24, 25, 26] [0, 2, 3, 30, 40, 43, 49] (by kernel_rfl) (by rfl) ?_; intro K hK; simp only [List.take_succ_cons, List.take_zero, List.drop_succ_cons, List.drop_zero, List.filterMap_cons_some, List.filterMap_nil, go_sem, Nat.reduceAdd, Nat.reduceSub, Nat.reduceMul, Nat.reduceLT, Nat.reduceLeDiff, Nat.reduceEqDiff, Nat.reduceDiv, Nat.reduceBEq, Int.reduceNeg, reduceCtorEq, ↓reduceIte, Int.reduceEq, Int.reduceLT, Int.reduceLE, Int.reduceToNat, Int.reduceAdd, Int.reduceSub, Int.reduceMul, Nat.reducePow, he2, k1, k2, k3, k4, sbyte_bt, Option.some.injEq, forall_eq'])
    | ((refine ⟨_, ACall.part [(1000, 1000), (1001, 1001)] rfl hends2 rfl rfl rfl rfl rfl rfl, ?_⟩) <;> (try simp only [go_sem, Nat.reduceAdd, Nat.reduceSub, Nat.reduceMul, Nat.reduceLT, Nat.reduceLeDiff, Nat.reduceEqDiff, Nat.reduceDiv, Nat.reduceBEq, Int.reduceNeg, reduceCtorEq, ↓reduceIte, Int.reduceEq, Int.reduceLT, Int.reduceLE, Int.reduceToNat, Int.reduceAdd, Int.reduceSub, Int.reduceMul, Nat.reducePow, he2, k1, k2, k3, k4, sbyte_bt, Option.some.injEq, forall_eq']))
    | (refine hK _ _ ?_; clear hK K; simp only [prune, List.map_cons, List.map_nil, lk_hit, lk_miss, lk_nil, ne_eq, Nat.reduceEqDiff, not_false_eq_true])
    | (refine gd_split ?_ ?_ <;> intro hb <;> (try simp only [Bool.not_eq_true', Bool.not_eq_false', decide_eq_true_eq, decide_eq_false_iff_not, Bool.not_true, Bool.not_false, Bool.not_eq_true, Bool.not_eq_false] at hb) <;> simp only [go_sem, Nat.reduceAdd, Nat.reduceSub, Nat.reduceMul, Nat.reduceLT, Nat.reduceLeDiff, Nat.reduceEqDiff, Nat.reduceDiv, Nat.reduceBEq, Int.reduceNeg, reduceCtorEq, ↓reduceIte, Int.reduceEq, Int.reduceLT, Int.reduceLE, Int.reduceToNat, Int.reduceAdd, Int.reduceSub, Int.reduceMul, Nat.reducePow, he2, k1, k2, k3, k4, sbyte_bt, Option.some.injEq, forall_eq', hb])
    | (refine AGood.condT ?_ rfl ?_; focus (simp only [ev_tmp, ev_const, oc_bool, lk_hit, lk_miss, ne_eq, Nat.reduceEqDiff, not_false_eq_true]; done))
    | (refine AGood.condF ?_ rfl ?_; focus (simp only [ev_tmp, ev_const, oc_bool, lk_hit, lk_miss, ne_eq, Nat.reduceEqDiff, not_false_eq_true]; done))
    | (refine AGood.cond (by simp only [ev_tmp, ev_const, oc_bool, lk_hit, lk_miss, ne_eq, Nat.reduceEqDiff, not_false_eq_true]; rfl) rfl ?_ ?_ <;> intro hc <;> (try simp only [Bool.not_eq_true', Bool.not_eq_false', decide_eq_true_eq, decide_eq_false_iff_not, Bool.not_true, Bool.not_false, Bool.not_eq_true, Bool.not_eq_false] at hc) <;> (try simp only [hc, decide_true, decide_false, Bool.not_true, Bool.not_false]))
    | (intro _)
    | (refine And.intro ?_ ?_)
    | (refine AGood.retF LL_ok [1000, 1001] [.tmp 2] rfl ?_; simp only [sf_nil, sf_cons, go_sem, Nat.reduceAdd, Nat.reduceSub, Nat.reduceMul, Nat.reduceLT, Nat.reduceLeDiff, Nat.reduceEqDiff, Nat.reduceDiv, Nat.reduceBEq, Int.reduceNeg, reduceCtorEq, ↓reduceIte, Int.reduceEq, Int.reduceLT, Int.reduceLE, Int.reduceToNat, Int.reduceAdd, Int.reduceSub, Int.reduceMul, Nat.reducePow])
    | (refine AGood.doneF LL_ok [1000, 1001] [.tmp 2] rfl ?_; simp only [sf_nil, sf_cons, go_sem, Nat.reduceAdd, Nat.reduceSub, Nat.reduceMul, Nat.reduceLT, Nat.reduceLeDiff, Nat.reduceEqDiff, Nat.reduceDiv, Nat.reduceBEq, Int.reduceNeg, reduceCtorEq, ↓reduceIte, Int.reduceEq, Int.reduceLT, Int.reduceLE, Int.reduceToNat, Int.reduceAdd, Int.reduceSub, Int.reduceMul, Nat.reducePow]))
              all_goals first | omega | (unfold bigLen; omega) | exact ⟨_, _, ⟨rfl, rfl⟩, rfl⟩ | exact ⟨_, rfl⟩ | (rename_i hy; simp only [List.mem_singleton] at hy; subst hy; rfl) | skip
            | cons m t =>
              simp only [Option.some.injEq, Prod.mk.injEq] at h
              obtain ⟨rfl, rfl⟩ := h
              generalize hl2 : k :: m :: t = l2
              have k1 : ¬ (l2.length : Int) = 0 := by rw [← hl2]; simp; omega
              have k2 : ¬ (l2.length : Int) = 1 := by rw [← hl2]; simp; omega
              have hput := putR_c s ⟨cp, cn, cd, 0, cw⟩ g hh ⟨3, ISet.none, l2, 0, 0, ByteArray.empty⟩ false (by simp only; omega)
              simp only [rsto, Node.cellsF] at hput
              have e9 : (ints l2).take l2.length = ints l2 := List.take_of_length_le (by simp)
              repeat' (first
    | (refine AGood.at 10 ?_; (refine AGood.freeze 900 rfl ?_; simp only [rfT, rfS, rfO, rf, rf1, e9, true_and, go_sem, Nat.reduceAdd, Nat.reduceSub, Nat.reduceMul, Nat.reduceLT, Nat.reduceLeDiff, Nat.reduceEqDiff, Nat.reduceDiv, Nat.reduceBEq, Int.reduceNeg, reduceCtorEq, ↓reduceIte, Int.reduceEq, Int.reduceLT, Int.reduceLE, Int.reduceToNat, Int.reduceAdd, Int.reduceSub, Int.reduceMul, Nat.reducePow]); (refine AGood.reg LL_ok [] [0, 2, 3, 30, 40, 43, 49] (by kernel_rfl) ?_; intro K hK; simp only [go_sem, Nat.reduceAdd, Nat.reduceSub, Nat.reduceMul, Nat.reduceLT, Nat.reduceLeDiff, Nat.reduceEqDiff, Nat.reduceDiv, Nat.reduceBEq, Int.reduceNeg, reduceCtorEq, ↓reduceIte, Int.reduceEq, Int.reduceLT, Int.reduceLE, Int.reduceToNat, Int.reduceAdd, Int.reduceSub, Int.reduceMul, Nat.reducePow, he2, k1, k2, sbyte_bt, ba_empty, ISet.none]))
    | refine AGood.seq ?_
    | refine AGood.skip ?_
    | refine AGood.block ?_
    | refine AGood.inBlock ?_
    | refine AGood.exit rfl ?_
    | (refine AGood.reg LL_ok [] [0, 2, 3, 30, 40, 43, 49] (by kernel_rfl) ?_; intro K hK; simp only [go_sem, Nat.reduceAdd, Nat.reduceSub, Nat.reduceMul, Nat.reduceLT, Nat.reduceLeDiff, Nat.reduceEqDiff, Nat.reduceDiv, Nat.reduceBEq, Int.reduceNeg, reduceCtorEq, ↓reduceIte, Int.reduceEq, Int.reduceLT, Int.reduceLE, Int.reduceToNat, Int.reduceAdd, Int.reduceSub, Int.reduceMul, Nat.reducePow, he2, k1, k2, sbyte_bt, ba_empty, ISet.none])
    | (refine AGood.drawn LL_ok mixed [] 27 [0, 1, 2, 3, 4, 5, 6, 7, 8, 9, 10, 11, 12, 13, 14, 15, 16, 17, 18, 19, 20, 21, 22, 23, 24, 25, 26] [0, 2, 3, 30, 40, 43, 49] (by kernel_rfl) (by rfl) ?_; intro K hK; simp only [List.take_succ_cons, List.take_zero, List.drop_succ_cons, List.drop_zero, List.filterMap_cons_some, List.filterMap_nil, go_sem, Nat.reduceAdd, Nat.reduceSub, Nat.reduceMul, Nat.reduceLT, Nat.reduceLeDiff, Nat.reduceEqDiff, Nat.reduceDiv, Nat.reduceBEq, Int.reduceNeg, reduceCtorEq, ↓reduceIte, Int.reduceEq, Int.reduceLT, Int.reduceLE, Int.reduceToNat, Int.reduceAdd, Int.reduceSub, Int.reduceMul, Nat.reducePow, he2, k1, k2, sbyte_bt, ba_empty, ISet.none])
    | ((refine ⟨_, ACall.part [(1000, 1000), (1001, 1001)] rfl hends2 rfl rfl rfl rfl rfl rfl, ?_⟩) <;> (try simp only [go_sem, Nat.reduceAdd, Nat.reduceSub, Nat.reduceMul, Nat.reduceLT, Nat.reduceLeDiff, Nat.reduceEqDiff, Nat.reduceDiv, Nat.reduceBEq, Int.reduceNeg, reduceCtorEq, ↓reduceIte, Int.reduceEq, Int.reduceLT, Int.reduceLE, Int.reduceToNat, Int.reduceAdd, Int.reduceSub, Int.reduceMul, Nat.reducePow, he2, k1, k2, sbyte_bt, ba_empty, ISet.none]))
    | ((refine ACall.mono hput ?_; rintro _ _ ⟨rfl, h2, rfl⟩) <;> (try simp only [go_sem, Nat.reduceAdd, Nat.reduceSub, Nat.reduceMul, Nat.reduceLT, Nat.reduceLeDiff, Nat.reduceEqDiff, Nat.reduceDiv, Nat.reduceBEq, Int.reduceNeg, reduceCtorEq, ↓reduceIte, Int.reduceEq, Int.reduceLT, Int.reduceLE, Int.reduceToNat, Int.reduceAdd, Int.reduceSub, Int.reduceMul, Nat.reducePow, he2, k1, k2, sbyte_bt, ba_empty, ISet.none]))
    | (refine hK _ _ ?_; clear hK K; simp only [prune, List.map_cons, List.map_nil, lk_hit, lk_miss, lk_nil, ne_eq, Nat.reduceEqDiff, not_false_eq_true])
    | (refine gd_split ?_ ?_ <;> intro hb <;> (try simp only [Bool.not_eq_true', Bool.not_eq_false', decide_eq_true_eq, decide_eq_false_iff_not, Bool.not_true, Bool.not_false, Bool.not_eq_true, Bool.not_eq_false] at hb) <;> simp only [go_sem, Nat.reduceAdd, Nat.reduceSub, Nat.reduceMul, Nat.reduceLT, Nat.reduceLeDiff, Nat.reduceEqDiff, Nat.reduceDiv, Nat.reduceBEq, Int.reduceNeg, reduceCtorEq, ↓reduceIte, Int.reduceEq, Int.reduceLT, Int.reduceLE, Int.reduceToNat, Int.reduceAdd, Int.reduceSub, Int.reduceMul, Nat.reducePow, he2, k1, k2, sbyte_bt, ba_empty, ISet.none, hb])
    | (refine AGood.condT ?_ rfl ?_; focus (simp only [ev_tmp, ev_const, oc_bool, lk_hit, lk_miss, ne_eq, Nat.reduceEqDiff, not_false_eq_true]; done))
    | (refine AGood.condF ?_ rfl ?_; focus (simp only [ev_tmp, ev_const, oc_bool, lk_hit, lk_miss, ne_eq, Nat.reduceEqDiff, not_false_eq_true]; done))
    | (refine AGood.cond (by simp only [ev_tmp, ev_const, oc_bool, lk_hit, lk_miss, ne_eq, Nat.reduceEqDiff, not_false_eq_true]; rfl) rfl ?_ ?_ <;> intro hc <;> (try simp only [Bool.not_eq_true', Bool.not_eq_false', decide_eq_true_eq, decide_eq_false_iff_not, Bool.not_true, Bool.not_false, Bool.not_eq_true, Bool.not_eq_false] at hc) <;> (try simp only [hc, decide_true, decide_false, Bool.not_true, Bool.not_false]))
    | (intro _)
    | (refine And.intro ?_ ?_)
    | (refine AGood.retF LL_ok [1000, 1001] [.tmp 2] rfl ?_; simp only [sf_nil, sf_cons, go_sem, Nat.reduceAdd, Nat.reduceSub, Nat.reduceMul, Nat.reduceLT, Nat.reduceLeDiff, Nat.reduceEqDiff, Nat.reduceDiv, Nat.reduceBEq, Int.reduceNeg, reduceCtorEq, ↓reduceIte, Int.reduceEq, Int.reduceLT, Int.reduceLE, Int.reduceToNat, Int.reduceAdd, Int.reduceSub, Int.reduceMul, Nat.reducePow])
    | (refine AGood.doneF LL_ok [1000, 1001] [.tmp 2] rfl ?_; simp only [sf_nil, sf_cons, go_sem, Nat.reduceAdd, Nat.reduceSub, Nat.reduceMul, Nat.reduceLT, Nat.reduceLeDiff, Nat.reduceEqDiff, Nat.reduceDiv, Nat.reduceBEq, Int.reduceNeg, reduceCtorEq, ↓reduceIte, Int.reduceEq, Int.reduceLT, Int.reduceLE, Int.reduceToNat, Int.reduceAdd, Int.reduceSub, Int.reduceMul, Nat.reducePow]))
              all_goals first | omega | (unfold bigLen; omega) | exact ⟨_, _, ⟨rfl, rfl⟩, rfl⟩ | exact ⟨_, rfl⟩ | (rename_i hy; simp only [List.mem_singleton] at hy; subst hy; rfl) | skip
        · rw [if_pos hw] at h
          simp only [Option.some.injEq, Prod.mk.injEq] at h
          obtain ⟨rfl, rfl⟩ := h
          repeat' (first
    | refine AGood.seq ?_
    | refine AGood.skip ?_
    | refine AGood.block ?_
    | refine AGood.inBlock ?_
    | refine AGood.exit rfl ?_
    | (refine AGood.reg LL_ok [] [0, 2, 3, 30, 40, 43, 49] (by kernel_rfl) ?_; intro K hK; simp only [go_sem, Nat.reduceAdd, Nat.reduceSub, Nat.reduceMul, Nat.reduceLT, Nat.reduceLeDiff, Nat.reduceEqDiff, Nat.reduceDiv, Nat.reduceBEq, Int.reduceNeg, reduceCtorEq, ↓reduceIte, Int.reduceEq, Int.reduceLT, Int.reduceLE, Int.reduceToNat, Int.reduceAdd, Int.reduceSub, Int.reduceMul, Nat.reducePow, he2, hw, sbyte_bt])
    | (refine AGood.drawn LL_ok mixed [] 27 [0, 1, 2, 3, 4, 5, 6, 7, 8, 9, 10, 11, 12, 13, 14, 15, 16, 17, 18, 19, 20, 21, 22, 23, 24, 25, 26] [0, 2, 3, 30, 40, 43, 49] (by kernel_rfl) (by rfl) ?_; intro K hK; simp only [List.take_succ_cons, List.take_zero, List.drop_succ_cons, List.drop_zero, List.filterMap_cons_some, List.filterMap_nil, go_sem, Nat.reduceAdd, Nat.reduceSub, Nat.reduceMul, Nat.reduceLT, Nat.reduceLeDiff, Nat.reduceEqDiff, Nat.reduceDiv, Nat.reduceBEq, Int.reduceNeg, reduceCtorEq, ↓reduceIte, Int.reduceEq, Int.reduceLT, Int.reduceLE, Int.reduceToNat, Int.reduceAdd, Int.reduceSub, Int.reduceMul, Nat.reducePow, he2, hw, sbyte_bt])
    | ((refine ⟨_, ACall.part [(1000, 1000), (1001, 1001)] rfl hends2 rfl rfl rfl rfl rfl rfl, ?_⟩) <;> (try simp only [go_sem, Nat.reduceAdd, Nat.reduceSub, Nat.reduceMul, Nat.reduceLT, Nat.reduceLeDiff, Nat.reduceEqDiff, Nat.reduceDiv, Nat.reduceBEq, Int.reduceNeg, reduceCtorEq, ↓reduceIte, Int.reduceEq, Int.reduceLT, Int.reduceLE, Int.reduceToNat, Int.reduceAdd, Int.reduceSub, Int.reduceMul, Nat.reducePow, he2, hw, sbyte_bt]))
    | (refine hK _ _ ?_; clear hK K; simp only [prune, List.map_cons, List.map_nil, lk_hit, lk_miss, lk_nil, ne_eq, Nat.reduceEqDiff, not_false_eq_true])
    | (refine gd_split ?_ ?_ <;> intro hb <;> (try simp only [Bool.not_eq_true', Bool.not_eq_false', decide_eq_true_eq, decide_eq_false_iff_not, Bool.not_true, Bool.not_false, Bool.not_eq_true, Bool.not_eq_false] at hb) <;> simp only [go_sem, Nat.reduceAdd, Nat.reduceSub, Nat.reduceMul, Nat.reduceLT, Nat.reduceLeDiff, Nat.reduceEqDiff, Nat.reduceDiv, Nat.reduceBEq, Int.reduceNeg, reduceCtorEq, ↓reduceIte, Int.reduceEq, Int.reduceLT, Int.reduceLE, Int.reduceToNat, Int.reduceAdd, Int.reduceSub, Int.reduceMul, Nat.reducePow, he2, hw, sbyte_bt, hb])
    | (refine AGood.condT ?_ rfl ?_; focus (simp only [ev_tmp, ev_const, oc_bool, lk_hit, lk_miss, ne_eq, Nat.reduceEqDiff, not_false_eq_true]; done))
    | (refine AGood.condF ?_ rfl ?_; focus (simp only [ev_tmp, ev_const, oc_bool, lk_hit, lk_miss, ne_eq, Nat.reduceEqDiff, not_false_eq_true]; done))
    | (refine AGood.cond (by simp only [ev_tmp, ev_const, oc_bool, lk_hit, lk_miss, ne_eq, Nat.reduceEqDiff, not_false_eq_true]; rfl) rfl ?_ ?_ <;> intro hc <;> (try simp only [Bool.not_eq_true', Bool.not_eq_false', decide_eq_true_eq, decide_eq_false_iff_not, Bool.not_true, Bool.not_false, Bool.not_eq_true, Bool.not_eq_false] at hc) <;> (try simp only [hc, decide_true, decide_false, Bool.not_true, Bool.not_false]))
    | (intro _)
    | (refine And.intro ?_ ?_)
    | (refine AGood.retF LL_ok [1000, 1001] [.tmp 2] rfl ?_; simp only [sf_nil, sf_cons, go_sem, Nat.reduceAdd, Nat.reduceSub, Nat.reduceMul, Nat.reduceLT, Nat.reduceLeDiff, Nat.reduceEqDiff, Nat.reduceDiv, Nat.reduceBEq, Int.reduceNeg, reduceCtorEq, ↓reduceIte, Int.reduceEq, Int.reduceLT, Int.reduceLE, Int.reduceToNat, Int.reduceAdd, Int.reduceSub, Int.reduceMul, Nat.reducePow])
    | (refine AGood.doneF LL_ok [1000, 1001] [.tmp 2] rfl ?_; simp only [sf_nil, sf_cons, go_sem, Nat.reduceAdd, Nat.reduceSub, Nat.reduceMul, Nat.reduceLT, Nat.reduceLeDiff, Nat.reduceEqDiff, Nat.reduceDiv, Nat.reduceBEq, Int.reduceNeg, reduceCtorEq, ↓reduceIte, Int.reduceEq, Int.reduceLT, Int.reduceLE, Int.reduceToNat, Int.reduceAdd, Int.reduceSub, Int.reduceMul, Nat.reducePow]))
          all_goals first | omega | (unfold bigLen; omega) | exact ⟨_, _, ⟨rfl, rfl⟩, rfl⟩ | exact ⟨_, rfl⟩ | (rename_i hy; simp only [List.mem_singleton] at hy; subst hy; rfl) | skip
end Go.Rad
