/- NormLong: what it computes. -/
import Derived.Test.YtejdlelhlpnabaaKL06n
import Derived.Test.YtejdlelhlpnabaaKRNormLong
set_option linter.all false
namespace Go.Rad
open Go Go.Proofs
set_option linter.unusedSimpArgs false
set_option maxRecDepth 20000
set_option maxHeartbeats 4000000
attribute [local go_sem] vc_nil vc_move vc_assign vc_pick vc_alloc vc_box vc_build vc_buildSlice vc_load vc_store vc_nilCheck vc_bin_tmp vc_bin_int vc_bin_bool vc_bin_str vc_bin_agg vc_eqNil vc_neNil vc_unOp vc_convert vc_makeFunc vc_makeMap vc_makeSlice vc_slice vc_fieldAddr vc_field vc_indexAddr vc_index vc_lookup vc_mapUpdate vc_extract vc_builtin vc_call vc_guard gd_tt gd_ff gd_tf gd_ft gd_none pk_t pk_f nc_bx nc_loc nc_ref nc_fn cl_fn cl_fq kv_ap kvs_ap kvs_nil kvc_ap frq_ff frq_osl frO_row frq_sl frq_int frq_tup ks_ap kb_ap kb_ap' put_some put_none ev_tmp ev_const ev_func oc_int oc_bool oc_str oc_nil oc_sl oc_map oc_fn oc_agg oc1uint oc1ubool oc1ustr oc1unil oc1usl lk_hit lk_miss sget_hit sget_miss sget_nil sput_nil sput_hit sput_lt sput_gt vcRes_nil vcRes_tmp vcRes_cell retv_one retv_nil retv_more sdel_nil sdel_hit sdel_miss ld_bx ld_loc ld_ref ldB_box ldR_map mkv_ag mkv_one st_bx st_loc sn_bx sn_loc nr_sl nr_int nr_bool nr_str nr_ref nr_nil nr_nilfn nr_nilmap nr_fn nv_agg nv_sl nv_int nv_bool nv_str nv_ref nv_nil nv_fn stB_box stR_row fd_eq fdA_bx fdA_loc fdA_ref foff_st fo_eq foA_agg ix_eq ixA_osl ixO_row ixA_map ixA_abx ixA_aloc ixA_aref iv_eq ivA_str ivA_agg ex_tup ln_eq lnA_str lnA_sl lnA_osl lnA_arr bl_len bl_append bl_max bl_min el_sl el_osl elO_all elO_one elO_row ap_eq apA_sl apE_osl apO_row apE_nil mk_eq mkA_sl bs_eq bsA_sl bsC_some fc_nil fc_st fc_arr fc_sl fcA_some bb_eql bb_neq ba_eql ba_neq eqA_arr eqI_int eqN_some io_nil io_cons io_map ar_i64 ar_u8 ar_u16 ar_u32 ar_u64 ar_i32 un_not un_neg un_xor sl_eq slA_str slA_sl slA_osl ia_none ia_some sf_none sf_some cv_eq cvA_int cvA_str lu_eq luA_map luO_mp lv_some lv_none mu_eq muA_map muO_mp vn_sl vn_osl co_agg co_nil co_nilmap co_nilfn iw_agg iw_nil iw_nilmap iw_nilfn fz_nil fz_fn fz_osl ch_zero ch_succ ch_one sp_eq bi_add bi_sub bi_mul bi_quo bi_rem bi_and bi_or bi_xor bi_andNot bi_eql bi_neq bi_lss bi_leq bi_gtr bi_geq ii_add ii_sub ii_mul ii_quo ii_rem ii_and ii_or ii_xor ii_andNot ii_eql ii_neq ii_lss ii_leq ii_gtr ii_geq bi_shl bi_shr sh_shl sh_shr ss_add ss_eql ss_neq ss_lss ss_gtr ss_leq ss_geq co_bool iw_bool fz_bool co_int iw_int fz_int co_str iw_str fz_str co_sl iw_sl fz_sl co_ref iw_ref fz_ref co_osl iw_osl co_bx iw_bx co_loc iw_loc co_map iw_map co_fn iw_fn List.length_map List.map_cons List.map_nil List.append_nil List.nil_append List.cons_append List.length_cons List.length_nil List.getElem?_cons_zero List.getElem?_cons_succ List.getElem?_nil Option.map_some Option.map_none Option.some.injEq List.take_succ_cons List.take_zero List.drop_succ_cons List.drop_zero List.headD_cons List.all_cons List.all_nil List.replicate List.flatten_cons List.flatten_nil List.toList_toArray Array.toList_empty Nat.zero_add Nat.add_zero Nat.succ_eq_add_one Nat.le_refl List.contains_nil List.contains_cons Bool.or_false Bool.or_true Bool.false_or Bool.true_or Option.getD_some Option.getD_none ne_eq not_false_eq_true not_true_eq_false and_true true_and false_and and_self Bool.and_true Bool.true_and Bool.not_false Bool.not_true Bool.false_eq_true Bool.and_self if_true if_false ite_true ite_false exists_eq_left exists_eq_left' exists_and_left exists_eq forall_eq forall_eq' forall_const imp_self implies_true Option.isSome_none Option.isSome_some Option.isNone_none Prod.mk.injEq Ty.slice.injEq Ty.map.injEq Ty.array.injEq false_implies true_implies decide_true decide_false Int.toNat_natCast Int.toNat_zero Int.natCast_nonneg Int.cast_ofNat_Int Int.natCast_zero Int.natCast_one Nat.not_lt_zero Nat.zero_le Nat.zero_lt_succ Nat.zero_mul LL_1 LL_2 LL_3 LL_4 LL_5 LL_6 LL_7 LL_8 LL_9 LL_10 LL_11 LL_12 LL_13 LL_14 LL_15 LL_16 LL_17 LL_18 LL_19 LL_21 LL_22 LL_23 LL_24 LL_25 LL_27 LL_28 LL_29 LL_30 LL_31 LL_32 LL_33 LL_34 LL_35 LL_36 LL_37 LL_38 LL_39 LL_40 LL_41 LL_42 LL_43 LL_44 LL_45 LL_46 LL_47 LL_48 LL_49 LL_50 LL_51 LL_52 LL_53 LL_54 LL_56 LL_57 LL_58 LL_59 LL_60 LL_61 LL_63 LL_64 LL_65 LL_66 LL_67 LL_68 LL_69 LL_70 LL_71 LL_72 LL_73 LL_74 LL_75 LL_76 LL_77 LL_78 LL_79 LL_80 LL_81 LL_82 LL_83 LL_84 LL_85 LL_87 LL_88 LL_90 LL_91 LL_92 LL_93 LL_94 LL_95 LL_97 LL_98 LL_99 LL_100 LL_101 LL_102 LL_103 LL_104 LL_105 LL_106 LL_108 LL_109 LL_110 LL_111 LL_112 LL_113 LL_114 LL_115 LL_116 LL_117 LL_118 LL_119 LL_120 LL_121 LL_122 LL_123 LL_124 LL_125 LL_126 LL_127 LL_128 LL_131 LL_132 LL_133 LL_134 LL_135 LL_136 LL_137 LL_138 LL_139

theorem normLong_c (a b : Nat) (ha : a ≤ 65535) (hb : b ≤ 65535) : ACall Try.prog 5 [.int .u16 a, .int .u16 b] [] fun r _ => r = .bool true := by
  have hsh := shown6uc
  obtain ⟨n, hn⟩ : ∃ n, n = a % 300 + 2 := ⟨_, rfl⟩
  obtain ⟨k, hk⟩ : ∃ k, k = b % 20 + 1 := ⟨_, rfl⟩
  have hn2 : 2 ≤ n := by omega
  have hn1 : n + 1 ≤ 1024 := by omega
  have hk1 : 1 ≤ k := by omega
  have hk2 : k + 1 ≤ 1024 := by omega
  have hk3 : k ≤ 20 := by omega
  have hn3 : n ≤ 301 := by omega
  have d1 : (a : Int).tmod 300 = ((a % 300 : Nat) : Int) := tmod_nat a 300
  have d2 : (b : Int).tmod 20 = ((b % 20 : Nat) : Int) := tmod_nat b 20
  have d3 := wr_i64n (n := a % 300) (by omega)
  have d4 := wr_i64n (n := b % 20) (by omega)
  have d5 : ((a % 300 : Nat) : Int) + 2 = (n : Nat) := by omega
  have d6 : ((b % 20 : Nat) : Int) + 1 = (k : Nat) := by omega
  have hlaw := law_long hn2 hn1 hk1 hk2
  have hexp := expand_c true false true false (longL k) [⟨tDd, longD n⟩] (rightS_bounds (longL_right hk1 hk2)) (by simp) (fun d hd => by simp only [List.mem_singleton] at hd; subst hd; exact ⟨(show tDd.size ≤ maxLen by decide), rightS_bounds (longD_right hn2 hn1)⟩)
  simp only [defs, List.map_cons, List.map_nil, Df.cells] at hexp
  refine ACall.enter Try.func5 rfl (by kernel_rfl) (Nat.le_of_ble_eq_true rfl) ?_; simp only [initTm, Nat.reduceAdd]
  repeat' (first
    | refine AGood.seq ?_
    | refine AGood.skip ?_
    | refine AGood.block ?_
    | refine AGood.inBlock ?_
    | refine AGood.exit rfl ?_
    | (refine AGood.reg LL_ok [] [0, 1, 4, 5, 6, 7, 8, 9, 10, 11, 12, 13, 14, 15, 25, 26, 27, 44, 45, 46, 62, 79] (by kernel_rfl) ?_; intro K hK; simp only [go_sem, Nat.reduceAdd, Nat.reduceSub, Nat.reduceMul, Nat.reduceLT, Nat.reduceLeDiff, Nat.reduceEqDiff, Nat.reduceDiv, Nat.reduceBEq, Int.reduceNeg, reduceCtorEq, ↓reduceIte, Int.reduceEq, Int.reduceLT, Int.reduceLE, Int.reduceToNat, Int.reduceAdd, Int.reduceSub, Int.reduceMul, Nat.reducePow, d1, d2, d3, d4, d5, d6])
    | (refine ACall.mono (ACall.alone (hsh) rfl rfl rfl) ?_; rintro _ _ ⟨rfl, rfl⟩; simp only [go_sem, Nat.reduceAdd, Nat.reduceSub, Nat.reduceMul, Nat.reduceLT, Nat.reduceLeDiff, Nat.reduceEqDiff, Nat.reduceDiv, Nat.reduceBEq, Int.reduceNeg, reduceCtorEq, ↓reduceIte, Int.reduceEq, Int.reduceLT, Int.reduceLE, Int.reduceToNat, Int.reduceAdd, Int.reduceSub, Int.reduceMul, Nat.reducePow, d1, d2, d3, d4, d5, d6])
    | (refine hK _ _ ?_; clear hK K; simp only [prune, List.map_cons, List.map_nil, lk_hit, lk_miss, lk_nil, ne_eq, Nat.reduceEqDiff, not_false_eq_true])
    | (refine gd_split ?_ ?_ <;> intro hb <;> (try simp only [Bool.not_eq_true', Bool.not_eq_false', decide_eq_true_eq, decide_eq_false_iff_not, Bool.not_true, Bool.not_false, Bool.not_eq_true, Bool.not_eq_false] at hb) <;> simp only [go_sem, Nat.reduceAdd, Nat.reduceSub, Nat.reduceMul, Nat.reduceLT, Nat.reduceLeDiff, Nat.reduceEqDiff, Nat.reduceDiv, Nat.reduceBEq, Int.reduceNeg, reduceCtorEq, ↓reduceIte, Int.reduceEq, Int.reduceLT, Int.reduceLE, Int.reduceToNat, Int.reduceAdd, Int.reduceSub, Int.reduceMul, Nat.reducePow, d1, d2, d3, d4, d5, d6, hb])
    | (refine AGood.condT ?_ rfl ?_; focus (simp only [ev_tmp, ev_const, oc_bool, lk_hit, lk_miss, ne_eq, Nat.reduceEqDiff, not_false_eq_true]; done))
    | (refine AGood.condF ?_ rfl ?_; focus (simp only [ev_tmp, ev_const, oc_bool, lk_hit, lk_miss, ne_eq, Nat.reduceEqDiff, not_false_eq_true]; done))
    | (refine AGood.cond (by simp only [ev_tmp, ev_const, oc_bool, lk_hit, lk_miss, ne_eq, Nat.reduceEqDiff, not_false_eq_true]; rfl) rfl ?_ ?_ <;> intro hc <;> (try simp only [Bool.not_eq_true', Bool.not_eq_false', decide_eq_true_eq, decide_eq_false_iff_not, Bool.not_true, Bool.not_false, Bool.not_eq_true, Bool.not_eq_false] at hc) <;> (try simp only [hc, decide_true, decide_false, Bool.not_true, Bool.not_false]))
    | (intro _)
    | (refine And.intro ?_ ?_)
    | (refine AGood.retF LL_ok [] [.tmp 4] rfl ?_; simp only [sf_nil, sf_cons, go_sem, Nat.reduceAdd, Nat.reduceSub, Nat.reduceMul, Nat.reduceLT, Nat.reduceLeDiff, Nat.reduceEqDiff, Nat.reduceDiv, Nat.reduceBEq, Int.reduceNeg, reduceCtorEq, ↓reduceIte, Int.reduceEq, Int.reduceLT, Int.reduceLE, Int.reduceToNat, Int.reduceAdd, Int.reduceSub, Int.reduceMul, Nat.reducePow])
    | (refine AGood.doneF LL_ok [] [.tmp 4] rfl ?_; simp only [sf_nil, sf_cons, go_sem, Nat.reduceAdd, Nat.reduceSub, Nat.reduceMul, Nat.reduceLT, Nat.reduceLeDiff, Nat.reduceEqDiff, Nat.reduceDiv, Nat.reduceBEq, Int.reduceNeg, reduceCtorEq, ↓reduceIte, Int.reduceEq, Int.reduceLT, Int.reduceLE, Int.reduceToNat, Int.reduceAdd, Int.reduceSub, Int.reduceMul, Nat.reducePow]))
  all_goals first | omega | (unfold bigLen; omega) | exact ⟨_, _, ⟨rfl, rfl⟩, rfl⟩ | exact ⟨_, rfl⟩ | (rename_i hy; simp only [List.mem_singleton] at hy; subst hy; rfl) | skip
  clear hn hk d1 d2 d3 d4 d5 d6
  refine AGood.ownTm 8 908 9 (by decide) rfl fun g8 => ?_
  refine AGood.ownTm 10 910 1 (by decide) rfl fun g10 => ?_
  simp only [go_sem, Nat.reduceAdd, Nat.reduceSub, Nat.reduceMul, Nat.reduceLT, Nat.reduceLeDiff, Nat.reduceEqDiff, Nat.reduceDiv, Nat.reduceBEq, Int.reduceNeg, reduceCtorEq, ↓reduceIte, Int.reduceEq, Int.reduceLT, Int.reduceLE, Int.reduceToNat, Int.reduceAdd, Int.reduceSub, Int.reduceMul, Nat.reducePow]
  refine AGood.prune [5, 6, 7, 8, 9, 10, 25, 26] ?_; simp only [prune, List.map_cons, List.map_nil, lk_hit, lk_miss, lk_nil, ne_eq, Nat.reduceEqDiff, not_false_eq_true]
  refine AGood.loopInv (α := Nat × Nat × Nat) (fun x => ([(5, .bool true), (6, .int .i64 n), (7, .int .i64 k), (8, .osl 908 x.2.1 0 x.1), (9, .sl true true []), (10, .osl 910 x.2.2 0 x.1), (25, .int .i64 n), (26, .int .i64 x.1)], [(908, (x.2.1, .row 9 (nodes (List.replicate x.1 bytesN)))), (910, (x.2.2, .row 1 (ints (rg x.1))))])) (fun x => x.1 ≤ n) (fun x => n - x.1) (0, g8, g10) (Nat.zero_le _) rfl ?_
  rintro ⟨i, g8, g10⟩ hi ih
  simp only at hi ih ⊢
  have l1 : (nodes (List.replicate i bytesN)).length = i := by simp
  have l2 : (ints (rg i)).length = i := by simp
  by_cases hle : i < n
  · have e4 : (i : Int) < n := by omega
    have e5 : (i : Int) + 1 = ((i + 1 : Nat) : Int) := by omega
    generalize hD : nodes (List.replicate i bytesN) = D at l1
    generalize hK : ints (rg i) = K0 at l2
    repeat' (first
    | refine AGood.seq ?_
    | refine AGood.skip ?_
    | refine AGood.block ?_
    | refine AGood.inBlock ?_
    | refine AGood.exit rfl ?_
    | (refine AGood.reg LL_ok [] [0, 1, 4, 5, 6, 7, 8, 9, 10, 11, 12, 13, 14, 15, 25, 26, 27, 44, 45, 46, 62, 79] (by kernel_rfl) ?_; intro K hK; simp only [go_sem, Nat.reduceAdd, Nat.reduceSub, Nat.reduceMul, Nat.reduceLT, Nat.reduceLeDiff, Nat.reduceEqDiff, Nat.reduceDiv, Nat.reduceBEq, Int.reduceNeg, reduceCtorEq, ↓reduceIte, Int.reduceEq, Int.reduceLT, Int.reduceLE, Int.reduceToNat, Int.reduceAdd, Int.reduceSub, Int.reduceMul, Nat.reducePow, e4, e5, l1, l2])
    | (refine hK _ _ ?_; clear hK K; simp only [prune, List.map_cons, List.map_nil, lk_hit, lk_miss, lk_nil, ne_eq, Nat.reduceEqDiff, not_false_eq_true])
    | (refine gd_split ?_ ?_ <;> intro hb <;> (try simp only [Bool.not_eq_true', Bool.not_eq_false', decide_eq_true_eq, decide_eq_false_iff_not, Bool.not_true, Bool.not_false, Bool.not_eq_true, Bool.not_eq_false] at hb) <;> simp only [go_sem, Nat.reduceAdd, Nat.reduceSub, Nat.reduceMul, Nat.reduceLT, Nat.reduceLeDiff, Nat.reduceEqDiff, Nat.reduceDiv, Nat.reduceBEq, Int.reduceNeg, reduceCtorEq, ↓reduceIte, Int.reduceEq, Int.reduceLT, Int.reduceLE, Int.reduceToNat, Int.reduceAdd, Int.reduceSub, Int.reduceMul, Nat.reducePow, e4, e5, l1, l2, hb])
    | (refine AGood.condT ?_ rfl ?_; focus (simp only [ev_tmp, ev_const, oc_bool, lk_hit, lk_miss, ne_eq, Nat.reduceEqDiff, not_false_eq_true]; done))
    | (refine AGood.condF ?_ rfl ?_; focus (simp only [ev_tmp, ev_const, oc_bool, lk_hit, lk_miss, ne_eq, Nat.reduceEqDiff, not_false_eq_true]; done))
    | (refine AGood.cond (by simp only [ev_tmp, ev_const, oc_bool, lk_hit, lk_miss, ne_eq, Nat.reduceEqDiff, not_false_eq_true]; rfl) rfl ?_ ?_ <;> intro hc <;> (try simp only [Bool.not_eq_true', Bool.not_eq_false', decide_eq_true_eq, decide_eq_false_iff_not, Bool.not_true, Bool.not_false, Bool.not_eq_true, Bool.not_eq_false] at hc) <;> (try simp only [hc, decide_true, decide_false, Bool.not_true, Bool.not_false]))
    | (intro _)
    | (refine And.intro ?_ ?_)
    | (refine AGood.retF LL_ok [] [.tmp 4] rfl ?_; simp only [sf_nil, sf_cons, go_sem, Nat.reduceAdd, Nat.reduceSub, Nat.reduceMul, Nat.reduceLT, Nat.reduceLeDiff, Nat.reduceEqDiff, Nat.reduceDiv, Nat.reduceBEq, Int.reduceNeg, reduceCtorEq, ↓reduceIte, Int.reduceEq, Int.reduceLT, Int.reduceLE, Int.reduceToNat, Int.reduceAdd, Int.reduceSub, Int.reduceMul, Nat.reducePow])
    | (refine AGood.doneF LL_ok [] [.tmp 4] rfl ?_; simp only [sf_nil, sf_cons, go_sem, Nat.reduceAdd, Nat.reduceSub, Nat.reduceMul, Nat.reduceLT, Nat.reduceLeDiff, Nat.reduceEqDiff, Nat.reduceDiv, Nat.reduceBEq, Int.reduceNeg, reduceCtorEq, ↓reduceIte, Int.reduceEq, Int.reduceLT, Int.reduceLE, Int.reduceToNat, Int.reduceAdd, Int.reduceSub, Int.reduceMul, Nat.reducePow]))
    all_goals first | omega | (unfold bigLen; omega) | exact ⟨_, _, ⟨rfl, rfl⟩, rfl⟩ | exact ⟨_, rfl⟩ | (rename_i hy; simp only [List.mem_singleton] at hy; subst hy; rfl) | skip
    rename_i h8' _ h10'
    refine AGood.filt [908, 910] ?_
    simp only [sf_cons, sf_nil, go_sem, Nat.reduceAdd, Nat.reduceSub, Nat.reduceMul, Nat.reduceLT, Nat.reduceLeDiff, Nat.reduceEqDiff, Nat.reduceDiv, Nat.reduceBEq, Int.reduceNeg, reduceCtorEq, ↓reduceIte, Int.reduceEq, Int.reduceLT, Int.reduceLE, Int.reduceToNat, Int.reduceAdd, Int.reduceSub, Int.reduceMul, Nat.reducePow]
    refine AGood.prune [5, 6, 7, 8, 9, 10, 25, 26] ?_; simp only [prune, List.map_cons, List.map_nil, lk_hit, lk_miss, lk_nil, ne_eq, Nat.reduceEqDiff, not_false_eq_true]
    refine AGood.cast (ih (i + 1, h8', h10') (by simp only; omega) (by simp only; omega)) rfl ?_
    rw [← hD, ← hK]
    simp [List.replicate_succ', rg_succ]
  · have e4 : ¬ (i : Int) < n := by omega
    have hin : i = n := by omega
    subst hin
    have e9 : (ints (rg i)).take i = ints (rg i) := List.take_of_length_le (by simp)
    have l3 : (rg i).length = i := rg_len i
    repeat' (first
    | (refine AGood.at 11 ?_; (refine AGood.freeze 910 rfl ?_; simp only [rfT, rfS, rfO, rf, rf1, e9, l2, l3, true_and, go_sem, Nat.reduceAdd, Nat.reduceSub, Nat.reduceMul, Nat.reduceLT, Nat.reduceLeDiff, Nat.reduceEqDiff, Nat.reduceDiv, Nat.reduceBEq, Int.reduceNeg, reduceCtorEq, ↓reduceIte, Int.reduceEq, Int.reduceLT, Int.reduceLE, Int.reduceToNat, Int.reduceAdd, Int.reduceSub, Int.reduceMul, Nat.reducePow]); (refine AGood.reg LL_ok [] [0, 1, 4, 5, 6, 7, 8, 9, 10, 11, 12, 13, 14, 15, 25, 26, 27, 44, 45, 46, 62, 79] (by kernel_rfl) ?_; intro K hK; simp only [go_sem, Nat.reduceAdd, Nat.reduceSub, Nat.reduceMul, Nat.reduceLT, Nat.reduceLeDiff, Nat.reduceEqDiff, Nat.reduceDiv, Nat.reduceBEq, Int.reduceNeg, reduceCtorEq, ↓reduceIte, Int.reduceEq, Int.reduceLT, Int.reduceLE, Int.reduceToNat, Int.reduceAdd, Int.reduceSub, Int.reduceMul, Nat.reducePow, e4, l1, l3]))
    | refine AGood.seq ?_
    | refine AGood.skip ?_
    | refine AGood.block ?_
    | refine AGood.inBlock ?_
    | refine AGood.exit rfl ?_
    | (refine AGood.reg LL_ok [] [0, 1, 4, 5, 6, 7, 8, 9, 10, 11, 12, 13, 14, 15, 25, 26, 27, 44, 45, 46, 62, 79] (by kernel_rfl) ?_; intro K hK; simp only [go_sem, Nat.reduceAdd, Nat.reduceSub, Nat.reduceMul, Nat.reduceLT, Nat.reduceLeDiff, Nat.reduceEqDiff, Nat.reduceDiv, Nat.reduceBEq, Int.reduceNeg, reduceCtorEq, ↓reduceIte, Int.reduceEq, Int.reduceLT, Int.reduceLE, Int.reduceToNat, Int.reduceAdd, Int.reduceSub, Int.reduceMul, Nat.reducePow, e4, l1, l3])
    | (refine hK _ _ ?_; clear hK K; simp only [prune, List.map_cons, List.map_nil, lk_hit, lk_miss, lk_nil, ne_eq, Nat.reduceEqDiff, not_false_eq_true])
    | (refine gd_split ?_ ?_ <;> intro hb <;> (try simp only [Bool.not_eq_true', Bool.not_eq_false', decide_eq_true_eq, decide_eq_false_iff_not, Bool.not_true, Bool.not_false, Bool.not_eq_true, Bool.not_eq_false] at hb) <;> simp only [go_sem, Nat.reduceAdd, Nat.reduceSub, Nat.reduceMul, Nat.reduceLT, Nat.reduceLeDiff, Nat.reduceEqDiff, Nat.reduceDiv, Nat.reduceBEq, Int.reduceNeg, reduceCtorEq, ↓reduceIte, Int.reduceEq, Int.reduceLT, Int.reduceLE, Int.reduceToNat, Int.reduceAdd, Int.reduceSub, Int.reduceMul, Nat.reducePow, e4, l1, l3, hb])
    | (refine AGood.condT ?_ rfl ?_; focus (simp only [ev_tmp, ev_const, oc_bool, lk_hit, lk_miss, ne_eq, Nat.reduceEqDiff, not_false_eq_true]; done))
    | (refine AGood.condF ?_ rfl ?_; focus (simp only [ev_tmp, ev_const, oc_bool, lk_hit, lk_miss, ne_eq, Nat.reduceEqDiff, not_false_eq_true]; done))
    | (refine AGood.cond (by simp only [ev_tmp, ev_const, oc_bool, lk_hit, lk_miss, ne_eq, Nat.reduceEqDiff, not_false_eq_true]; rfl) rfl ?_ ?_ <;> intro hc <;> (try simp only [Bool.not_eq_true', Bool.not_eq_false', decide_eq_true_eq, decide_eq_false_iff_not, Bool.not_true, Bool.not_false, Bool.not_eq_true, Bool.not_eq_false] at hc) <;> (try simp only [hc, decide_true, decide_false, Bool.not_true, Bool.not_false]))
    | (intro _)
    | (refine And.intro ?_ ?_)
    | (refine AGood.retF LL_ok [] [.tmp 4] rfl ?_; simp only [sf_nil, sf_cons, go_sem, Nat.reduceAdd, Nat.reduceSub, Nat.reduceMul, Nat.reduceLT, Nat.reduceLeDiff, Nat.reduceEqDiff, Nat.reduceDiv, Nat.reduceBEq, Int.reduceNeg, reduceCtorEq, ↓reduceIte, Int.reduceEq, Int.reduceLT, Int.reduceLE, Int.reduceToNat, Int.reduceAdd, Int.reduceSub, Int.reduceMul, Nat.reducePow])
    | (refine AGood.doneF LL_ok [] [.tmp 4] rfl ?_; simp only [sf_nil, sf_cons, go_sem, Nat.reduceAdd, Nat.reduceSub, Nat.reduceMul, Nat.reduceLT, Nat.reduceLeDiff, Nat.reduceEqDiff, Nat.reduceDiv, Nat.reduceBEq, Int.reduceNeg, reduceCtorEq, ↓reduceIte, Int.reduceEq, Int.reduceLT, Int.reduceLE, Int.reduceToNat, Int.reduceAdd, Int.reduceSub, Int.reduceMul, Nat.reducePow]))
    all_goals first | omega | (unfold bigLen; omega) | exact ⟨_, _, ⟨rfl, rfl⟩, rfl⟩ | exact ⟨_, rfl⟩ | (rename_i hy; simp only [List.mem_singleton] at hy; subst hy; rfl) | skip
    have m1 : (nodes (longD i)).length = i + 1 := by simp [longD]
    have m2 : (nodes (longD i)).take (i + 1) = nodes (longD i) := List.take_of_length_le (by rw [m1]; exact Nat.le_refl _)
    refine AGood.filt [908] ?_
    simp only [sf_cons, sf_nil, go_sem, Nat.reduceAdd, Nat.reduceSub, Nat.reduceMul, Nat.reduceLT, Nat.reduceLeDiff, Nat.reduceEqDiff, Nat.reduceDiv, Nat.reduceBEq, Int.reduceNeg, reduceCtorEq, ↓reduceIte, Int.reduceEq, Int.reduceLT, Int.reduceLE, Int.reduceToNat, Int.reduceAdd, Int.reduceSub, Int.reduceMul, Nat.reducePow]
    refine AGood.reRow 908 (nodes (longD i)) rfl (by simp [longD, ISet.none]) ?_
    simp only [go_sem, Nat.reduceAdd, Nat.reduceSub, Nat.reduceMul, Nat.reduceLT, Nat.reduceLeDiff, Nat.reduceEqDiff, Nat.reduceDiv, Nat.reduceBEq, Int.reduceNeg, reduceCtorEq, ↓reduceIte, Int.reduceEq, Int.reduceLT, Int.reduceLE, Int.reduceToNat, Int.reduceAdd, Int.reduceSub, Int.reduceMul, Nat.reducePow]
    refine AGood.freeze 908 rfl ?_
    simp only [rfT, rfS, rfO, rf, rf1, m1, m2, true_and, go_sem, Nat.reduceAdd, Nat.reduceSub, Nat.reduceMul, Nat.reduceLT, Nat.reduceLeDiff, Nat.reduceEqDiff, Nat.reduceDiv, Nat.reduceBEq, Int.reduceNeg, reduceCtorEq, ↓reduceIte, Int.reduceEq, Int.reduceLT, Int.reduceLE, Int.reduceToNat, Int.reduceAdd, Int.reduceSub, Int.reduceMul, Nat.reducePow]
    refine AGood.ownTm 9 909 9 (by decide) rfl fun g9 => ?_
    refine AGood.ownTm 10 911 1 (by decide) rfl fun g11 => ?_
    simp only [go_sem, Nat.reduceAdd, Nat.reduceSub, Nat.reduceMul, Nat.reduceLT, Nat.reduceLeDiff, Nat.reduceEqDiff, Nat.reduceDiv, Nat.reduceBEq, Int.reduceNeg, reduceCtorEq, ↓reduceIte, Int.reduceEq, Int.reduceLT, Int.reduceLE, Int.reduceToNat, Int.reduceAdd, Int.reduceSub, Int.reduceMul, Nat.reducePow]
    refine AGood.prune [5, 6, 7, 8, 9, 10, 44, 45] ?_; simp only [prune, List.map_cons, List.map_nil, lk_hit, lk_miss, lk_nil, ne_eq, Nat.reduceEqDiff, not_false_eq_true]
    clear ih hi hle e4 e9 l1 l2 l3
    refine AGood.loopInv (α := Nat × Nat × Nat) (fun x => ([(5, .bool true), (6, .int .i64 i), (7, .int .i64 k), (8, .sl true false (nodes (longD i))), (9, .osl 909 x.2.1 0 x.1), (10, .osl 911 x.2.2 0 x.1), (44, .int .i64 k), (45, .int .i64 x.1)], [(909, (x.2.1, .row 9 (nodes (List.replicate x.1 (refN tDd))))), (911, (x.2.2, .row 1 (ints (rg x.1))))])) (fun x => x.1 ≤ k) (fun x => k - x.1) (0, g9, g11) (Nat.zero_le _) rfl ?_
    rintro ⟨j, g9, g11⟩ hj ih
    simp only at hj ih ⊢
    have l1 : (nodes (List.replicate j (refN tDd))).length = j := by simp
    have l2 : (ints (rg j)).length = j := by simp
    by_cases hle : j < k
    · have e4 : (j : Int) < k := by omega
      generalize hD : nodes (List.replicate j (refN tDd)) = D at l1
      generalize hK : ints (rg j) = K0 at l2
      repeat' (first
    | refine AGood.seq ?_
    | refine AGood.skip ?_
    | refine AGood.block ?_
    | refine AGood.inBlock ?_
    | refine AGood.exit rfl ?_
    | (refine AGood.reg LL_ok [] [0, 1, 4, 5, 6, 7, 8, 9, 10, 11, 12, 13, 14, 15, 25, 26, 27, 44, 45, 46, 62, 79] (by kernel_rfl) ?_; intro K hK; simp only [go_sem, Nat.reduceAdd, Nat.reduceSub, Nat.reduceMul, Nat.reduceLT, Nat.reduceLeDiff, Nat.reduceEqDiff, Nat.reduceDiv, Nat.reduceBEq, Int.reduceNeg, reduceCtorEq, ↓reduceIte, Int.reduceEq, Int.reduceLT, Int.reduceLE, Int.reduceToNat, Int.reduceAdd, Int.reduceSub, Int.reduceMul, Nat.reducePow, e4, l1, l2])
    | (refine hK _ _ ?_; clear hK K; simp only [prune, List.map_cons, List.map_nil, lk_hit, lk_miss, lk_nil, ne_eq, Nat.reduceEqDiff, not_false_eq_true])
    | (refine gd_split ?_ ?_ <;> intro hb <;> (try simp only [Bool.not_eq_true', Bool.not_eq_false', decide_eq_true_eq, decide_eq_false_iff_not, Bool.not_true, Bool.not_false, Bool.not_eq_true, Bool.not_eq_false] at hb) <;> simp only [go_sem, Nat.reduceAdd, Nat.reduceSub, Nat.reduceMul, Nat.reduceLT, Nat.reduceLeDiff, Nat.reduceEqDiff, Nat.reduceDiv, Nat.reduceBEq, Int.reduceNeg, reduceCtorEq, ↓reduceIte, Int.reduceEq, Int.reduceLT, Int.reduceLE, Int.reduceToNat, Int.reduceAdd, Int.reduceSub, Int.reduceMul, Nat.reducePow, e4, l1, l2, hb])
    | (refine AGood.condT ?_ rfl ?_; focus (simp only [ev_tmp, ev_const, oc_bool, lk_hit, lk_miss, ne_eq, Nat.reduceEqDiff, not_false_eq_true]; done))
    | (refine AGood.condF ?_ rfl ?_; focus (simp only [ev_tmp, ev_const, oc_bool, lk_hit, lk_miss, ne_eq, Nat.reduceEqDiff, not_false_eq_true]; done))
    | (refine AGood.cond (by simp only [ev_tmp, ev_const, oc_bool, lk_hit, lk_miss, ne_eq, Nat.reduceEqDiff, not_false_eq_true]; rfl) rfl ?_ ?_ <;> intro hc <;> (try simp only [Bool.not_eq_true', Bool.not_eq_false', decide_eq_true_eq, decide_eq_false_iff_not, Bool.not_true, Bool.not_false, Bool.not_eq_true, Bool.not_eq_false] at hc) <;> (try simp only [hc, decide_true, decide_false, Bool.not_true, Bool.not_false]))
    | (intro _)
    | (refine And.intro ?_ ?_)
    | (refine AGood.retF LL_ok [] [.tmp 4] rfl ?_; simp only [sf_nil, sf_cons, go_sem, Nat.reduceAdd, Nat.reduceSub, Nat.reduceMul, Nat.reduceLT, Nat.reduceLeDiff, Nat.reduceEqDiff, Nat.reduceDiv, Nat.reduceBEq, Int.reduceNeg, reduceCtorEq, ↓reduceIte, Int.reduceEq, Int.reduceLT, Int.reduceLE, Int.reduceToNat, Int.reduceAdd, Int.reduceSub, Int.reduceMul, Nat.reducePow])
    | (refine AGood.doneF LL_ok [] [.tmp 4] rfl ?_; simp only [sf_nil, sf_cons, go_sem, Nat.reduceAdd, Nat.reduceSub, Nat.reduceMul, Nat.reduceLT, Nat.reduceLeDiff, Nat.reduceEqDiff, Nat.reduceDiv, Nat.reduceBEq, Int.reduceNeg, reduceCtorEq, ↓reduceIte, Int.reduceEq, Int.reduceLT, Int.reduceLE, Int.reduceToNat, Int.reduceAdd, Int.reduceSub, Int.reduceMul, Nat.reducePow]))
      all_goals first | omega | (unfold bigLen; omega) | exact ⟨_, _, ⟨rfl, rfl⟩, rfl⟩ | exact ⟨_, rfl⟩ | (rename_i hy; simp only [List.mem_singleton] at hy; subst hy; rfl) | skip
      rename_i h9' _ h11'
      refine AGood.filt [909, 911] ?_
      simp only [sf_cons, sf_nil, go_sem, Nat.reduceAdd, Nat.reduceSub, Nat.reduceMul, Nat.reduceLT, Nat.reduceLeDiff, Nat.reduceEqDiff, Nat.reduceDiv, Nat.reduceBEq, Int.reduceNeg, reduceCtorEq, ↓reduceIte, Int.reduceEq, Int.reduceLT, Int.reduceLE, Int.reduceToNat, Int.reduceAdd, Int.reduceSub, Int.reduceMul, Nat.reducePow]
      refine AGood.prune [5, 6, 7, 8, 9, 10, 44, 45] ?_; simp only [prune, List.map_cons, List.map_nil, lk_hit, lk_miss, lk_nil, ne_eq, Nat.reduceEqDiff, not_false_eq_true]
      refine AGood.cast (ih (j + 1, h9', h11') (by simp only; omega) (by simp only; omega)) rfl ?_
      rw [← hD, ← hK]
      simp [List.replicate_succ', rg_succ, ISet.none]
    · have e4 : ¬ (j : Int) < k := by omega
      have hjk : j = k := by omega
      subst hjk
      clear ih hj hle
      obtain ⟨S0, hS0⟩ : ∃ S0, S0 = j * (i + 1) := ⟨_, rfl⟩
      have hS1 : S0 ≤ 20 * 302 := by rw [hS0]; exact Nat.mul_le_mul hk3 (by omega)
      have f1 : (i : Int) + 1 = ((i + 1 : Nat) : Int) := by omega
      have f2 : (j : Int) * ((i + 1 : Nat) : Int) = (S0 : Nat) := by rw [hS0]; exact (Int.natCast_mul _ _).symm
      have f3 : (S0 : Int) + 1 = ((S0 + 1 : Nat) : Int) := by omega
      rcases hres : expandS (longL j) [⟨tDd, longD i⟩] with ⟨x, e⟩
      rw [hres] at hexp hlaw
      simp only at hexp
      by_cases h1 : 1 < j
      · have f4 : (1 : Int) < j := by omega
        have e9 : (ints (rg j)).take j = ints (rg j) := List.take_of_length_le (by simp)
        have l3 : (rg j).length = j := rg_len j
        have m3 : (nodes (longL j)).length = j + 1 := by simp [longL, h1]
        have m4 : (nodes (longL j)).take (j + 1) = nodes (longL j) := List.take_of_length_le (by rw [m3]; exact Nat.le_refl _)
        have hsum : longSum i j = S0 + 1 := by simp [longSum, h1, hS0]
        rw [hsum] at hlaw
        by_cases hs : S0 + 1 ≤ 1024
        · rw [if_pos hs] at hlaw
          obtain ⟨rfl, hxl⟩ := hlaw
          simp only at hxl
          have f5 : ¬ (1024 : Int) < (S0 + 1 : Nat) := by omega
          repeat' (first
    | (refine AGood.at 21 ?_; (refine AGood.freeze 911 rfl ?_; simp only [rfT, rfS, rfO, rf, rf1, e9, l2, l3, true_and, go_sem, Nat.reduceAdd, Nat.reduceSub, Nat.reduceMul, Nat.reduceLT, Nat.reduceLeDiff, Nat.reduceEqDiff, Nat.reduceDiv, Nat.reduceBEq, Int.reduceNeg, reduceCtorEq, ↓reduceIte, Int.reduceEq, Int.reduceLT, Int.reduceLE, Int.reduceToNat, Int.reduceAdd, Int.reduceSub, Int.reduceMul, Nat.reducePow]); (refine AGood.reg LL_ok [74] [0, 1, 4, 5, 6, 7, 8, 9, 10, 11, 12, 13, 14, 15, 25, 26, 27, 44, 45, 46, 62, 79] (by kernel_rfl) ?_; intro K hK; simp only [go_sem, Nat.reduceAdd, Nat.reduceSub, Nat.reduceMul, Nat.reduceLT, Nat.reduceLeDiff, Nat.reduceEqDiff, Nat.reduceDiv, Nat.reduceBEq, Int.reduceNeg, reduceCtorEq, ↓reduceIte, Int.reduceEq, Int.reduceLT, Int.reduceLE, Int.reduceToNat, Int.reduceAdd, Int.reduceSub, Int.reduceMul, Nat.reducePow, e4, f1, f2, f3, f4, f5, l1, l3, hxl]))
    | (refine AGood.at 23 ?_; (refine AGood.filt [909] ?_; simp only [sf_cons, sf_nil, go_sem, Nat.reduceAdd, Nat.reduceSub, Nat.reduceMul, Nat.reduceLT, Nat.reduceLeDiff, Nat.reduceEqDiff, Nat.reduceDiv, Nat.reduceBEq, Int.reduceNeg, reduceCtorEq, ↓reduceIte, Int.reduceEq, Int.reduceLT, Int.reduceLE, Int.reduceToNat, Int.reduceAdd, Int.reduceSub, Int.reduceMul, Nat.reducePow]; refine AGood.reRow 909 (nodes (longL j)) rfl (by simp [longL, h1, ISet.none]) ?_; simp only [go_sem, Nat.reduceAdd, Nat.reduceSub, Nat.reduceMul, Nat.reduceLT, Nat.reduceLeDiff, Nat.reduceEqDiff, Nat.reduceDiv, Nat.reduceBEq, Int.reduceNeg, reduceCtorEq, ↓reduceIte, Int.reduceEq, Int.reduceLT, Int.reduceLE, Int.reduceToNat, Int.reduceAdd, Int.reduceSub, Int.reduceMul, Nat.reducePow]; refine AGood.freeze 909 rfl ?_; simp only [rfT, rfS, rfO, rf, rf1, m3, m4, true_and, go_sem, Nat.reduceAdd, Nat.reduceSub, Nat.reduceMul, Nat.reduceLT, Nat.reduceLeDiff, Nat.reduceEqDiff, Nat.reduceDiv, Nat.reduceBEq, Int.reduceNeg, reduceCtorEq, ↓reduceIte, Int.reduceEq, Int.reduceLT, Int.reduceLE, Int.reduceToNat, Int.reduceAdd, Int.reduceSub, Int.reduceMul, Nat.reducePow]); (refine AGood.reg LL_ok [74] [0, 1, 4, 5, 6, 7, 8, 9, 10, 11, 12, 13, 14, 15, 25, 26, 27, 44, 45, 46, 62, 79] (by kernel_rfl) ?_; intro K hK; simp only [go_sem, Nat.reduceAdd, Nat.reduceSub, Nat.reduceMul, Nat.reduceLT, Nat.reduceLeDiff, Nat.reduceEqDiff, Nat.reduceDiv, Nat.reduceBEq, Int.reduceNeg, reduceCtorEq, ↓reduceIte, Int.reduceEq, Int.reduceLT, Int.reduceLE, Int.reduceToNat, Int.reduceAdd, Int.reduceSub, Int.reduceMul, Nat.reducePow, e4, f1, f2, f3, f4, f5, l1, l3, hxl]))
    | refine AGood.seq ?_
    | refine AGood.skip ?_
    | refine AGood.block ?_
    | refine AGood.inBlock ?_
    | refine AGood.exit rfl ?_
    | (refine AGood.reg LL_ok [74] [0, 1, 4, 5, 6, 7, 8, 9, 10, 11, 12, 13, 14, 15, 25, 26, 27, 44, 45, 46, 62, 79] (by kernel_rfl) ?_; intro K hK; simp only [go_sem, Nat.reduceAdd, Nat.reduceSub, Nat.reduceMul, Nat.reduceLT, Nat.reduceLeDiff, Nat.reduceEqDiff, Nat.reduceDiv, Nat.reduceBEq, Int.reduceNeg, reduceCtorEq, ↓reduceIte, Int.reduceEq, Int.reduceLT, Int.reduceLE, Int.reduceToNat, Int.reduceAdd, Int.reduceSub, Int.reduceMul, Nat.reducePow, e4, f1, f2, f3, f4, f5, l1, l3, hxl])
    | ((refine ACall.use [] [] rfl hexp rfl rfl rfl ?_; rintro _ _ ⟨⟨fl, rfl⟩, rfl⟩; refine ⟨.inl rfl, rfl, ?_⟩; simp only [bk, bk1, bkS, delAll, List.map_cons, List.map_nil]) <;> (try simp only [go_sem, Nat.reduceAdd, Nat.reduceSub, Nat.reduceMul, Nat.reduceLT, Nat.reduceLeDiff, Nat.reduceEqDiff, Nat.reduceDiv, Nat.reduceBEq, Int.reduceNeg, reduceCtorEq, ↓reduceIte, Int.reduceEq, Int.reduceLT, Int.reduceLE, Int.reduceToNat, Int.reduceAdd, Int.reduceSub, Int.reduceMul, Nat.reducePow, e4, f1, f2, f3, f4, f5, l1, l3, hxl]))
    | (refine hK _ _ ?_; clear hK K; simp only [prune, List.map_cons, List.map_nil, lk_hit, lk_miss, lk_nil, ne_eq, Nat.reduceEqDiff, not_false_eq_true])
    | (refine gd_split ?_ ?_ <;> intro hb <;> (try simp only [Bool.not_eq_true', Bool.not_eq_false', decide_eq_true_eq, decide_eq_false_iff_not, Bool.not_true, Bool.not_false, Bool.not_eq_true, Bool.not_eq_false] at hb) <;> simp only [go_sem, Nat.reduceAdd, Nat.reduceSub, Nat.reduceMul, Nat.reduceLT, Nat.reduceLeDiff, Nat.reduceEqDiff, Nat.reduceDiv, Nat.reduceBEq, Int.reduceNeg, reduceCtorEq, ↓reduceIte, Int.reduceEq, Int.reduceLT, Int.reduceLE, Int.reduceToNat, Int.reduceAdd, Int.reduceSub, Int.reduceMul, Nat.reducePow, e4, f1, f2, f3, f4, f5, l1, l3, hxl, hb])
    | (refine AGood.condT ?_ rfl ?_; focus (simp only [ev_tmp, ev_const, oc_bool, lk_hit, lk_miss, ne_eq, Nat.reduceEqDiff, not_false_eq_true]; done))
    | (refine AGood.condF ?_ rfl ?_; focus (simp only [ev_tmp, ev_const, oc_bool, lk_hit, lk_miss, ne_eq, Nat.reduceEqDiff, not_false_eq_true]; done))
    | (refine AGood.cond (by simp only [ev_tmp, ev_const, oc_bool, lk_hit, lk_miss, ne_eq, Nat.reduceEqDiff, not_false_eq_true]; rfl) rfl ?_ ?_ <;> intro hc <;> (try simp only [Bool.not_eq_true', Bool.not_eq_false', decide_eq_true_eq, decide_eq_false_iff_not, Bool.not_true, Bool.not_false, Bool.not_eq_true, Bool.not_eq_false] at hc) <;> (try simp only [hc, decide_true, decide_false, Bool.not_true, Bool.not_false]))
    | (intro _)
    | (refine And.intro ?_ ?_)
    | (refine AGood.retF LL_ok [] [.tmp 4] rfl ?_; simp only [sf_nil, sf_cons, go_sem, Nat.reduceAdd, Nat.reduceSub, Nat.reduceMul, Nat.reduceLT, Nat.reduceLeDiff, Nat.reduceEqDiff, Nat.reduceDiv, Nat.reduceBEq, Int.reduceNeg, reduceCtorEq, ↓reduceIte, Int.reduceEq, Int.reduceLT, Int.reduceLE, Int.reduceToNat, Int.reduceAdd, Int.reduceSub, Int.reduceMul, Nat.reducePow])
    | (refine AGood.doneF LL_ok [] [.tmp 4] rfl ?_; simp only [sf_nil, sf_cons, go_sem, Nat.reduceAdd, Nat.reduceSub, Nat.reduceMul, Nat.reduceLT, Nat.reduceLeDiff, Nat.reduceEqDiff, Nat.reduceDiv, Nat.reduceBEq, Int.reduceNeg, reduceCtorEq, ↓reduceIte, Int.reduceEq, Int.reduceLT, Int.reduceLE, Int.reduceToNat, Int.reduceAdd, Int.reduceSub, Int.reduceMul, Nat.reducePow]))
          all_goals first | omega | (unfold bigLen; omega) | exact ⟨_, _, ⟨rfl, rfl⟩, rfl⟩ | exact ⟨_, rfl⟩ | (rename_i hy; simp only [List.mem_singleton] at hy; subst hy; rfl) | skip
        · rw [if_neg hs] at hlaw
          obtain ⟨rfl, rfl⟩ := Prod.mk.inj hlaw
          have f5 : (1024 : Int) < (S0 + 1 : Nat) := by omega
          repeat' (first
    | (refine AGood.at 21 ?_; (refine AGood.freeze 911 rfl ?_; simp only [rfT, rfS, rfO, rf, rf1, e9, l2, l3, true_and, go_sem, Nat.reduceAdd, Nat.reduceSub, Nat.reduceMul, Nat.reduceLT, Nat.reduceLeDiff, Nat.reduceEqDiff, Nat.reduceDiv, Nat.reduceBEq, Int.reduceNeg, reduceCtorEq, ↓reduceIte, Int.reduceEq, Int.reduceLT, Int.reduceLE, Int.reduceToNat, Int.reduceAdd, Int.reduceSub, Int.reduceMul, Nat.reducePow]); (refine AGood.reg LL_ok [74] [0, 1, 4, 5, 6, 7, 8, 9, 10, 11, 12, 13, 14, 15, 25, 26, 27, 44, 45, 46, 62, 79] (by kernel_rfl) ?_; intro K hK; simp only [go_sem, Nat.reduceAdd, Nat.reduceSub, Nat.reduceMul, Nat.reduceLT, Nat.reduceLeDiff, Nat.reduceEqDiff, Nat.reduceDiv, Nat.reduceBEq, Int.reduceNeg, reduceCtorEq, ↓reduceIte, Int.reduceEq, Int.reduceLT, Int.reduceLE, Int.reduceToNat, Int.reduceAdd, Int.reduceSub, Int.reduceMul, Nat.reducePow, e4, f1, f2, f3, f4, f5, l1, l3]))
    | (refine AGood.at 23 ?_; (refine AGood.filt [909] ?_; simp only [sf_cons, sf_nil, go_sem, Nat.reduceAdd, Nat.reduceSub, Nat.reduceMul, Nat.reduceLT, Nat.reduceLeDiff, Nat.reduceEqDiff, Nat.reduceDiv, Nat.reduceBEq, Int.reduceNeg, reduceCtorEq, ↓reduceIte, Int.reduceEq, Int.reduceLT, Int.reduceLE, Int.reduceToNat, Int.reduceAdd, Int.reduceSub, Int.reduceMul, Nat.reducePow]; refine AGood.reRow 909 (nodes (longL j)) rfl (by simp [longL, h1, ISet.none]) ?_; simp only [go_sem, Nat.reduceAdd, Nat.reduceSub, Nat.reduceMul, Nat.reduceLT, Nat.reduceLeDiff, Nat.reduceEqDiff, Nat.reduceDiv, Nat.reduceBEq, Int.reduceNeg, reduceCtorEq, ↓reduceIte, Int.reduceEq, Int.reduceLT, Int.reduceLE, Int.reduceToNat, Int.reduceAdd, Int.reduceSub, Int.reduceMul, Nat.reducePow]; refine AGood.freeze 909 rfl ?_; simp only [rfT, rfS, rfO, rf, rf1, m3, m4, true_and, go_sem, Nat.reduceAdd, Nat.reduceSub, Nat.reduceMul, Nat.reduceLT, Nat.reduceLeDiff, Nat.reduceEqDiff, Nat.reduceDiv, Nat.reduceBEq, Int.reduceNeg, reduceCtorEq, ↓reduceIte, Int.reduceEq, Int.reduceLT, Int.reduceLE, Int.reduceToNat, Int.reduceAdd, Int.reduceSub, Int.reduceMul, Nat.reducePow]); (refine AGood.reg LL_ok [74] [0, 1, 4, 5, 6, 7, 8, 9, 10, 11, 12, 13, 14, 15, 25, 26, 27, 44, 45, 46, 62, 79] (by kernel_rfl) ?_; intro K hK; simp only [go_sem, Nat.reduceAdd, Nat.reduceSub, Nat.reduceMul, Nat.reduceLT, Nat.reduceLeDiff, Nat.reduceEqDiff, Nat.reduceDiv, Nat.reduceBEq, Int.reduceNeg, reduceCtorEq, ↓reduceIte, Int.reduceEq, Int.reduceLT, Int.reduceLE, Int.reduceToNat, Int.reduceAdd, Int.reduceSub, Int.reduceMul, Nat.reducePow, e4, f1, f2, f3, f4, f5, l1, l3]))
    | refine AGood.seq ?_
    | refine AGood.skip ?_
    | refine AGood.block ?_
    | refine AGood.inBlock ?_
    | refine AGood.exit rfl ?_
    | (refine AGood.reg LL_ok [74] [0, 1, 4, 5, 6, 7, 8, 9, 10, 11, 12, 13, 14, 15, 25, 26, 27, 44, 45, 46, 62, 79] (by kernel_rfl) ?_; intro K hK; simp only [go_sem, Nat.reduceAdd, Nat.reduceSub, Nat.reduceMul, Nat.reduceLT, Nat.reduceLeDiff, Nat.reduceEqDiff, Nat.reduceDiv, Nat.reduceBEq, Int.reduceNeg, reduceCtorEq, ↓reduceIte, Int.reduceEq, Int.reduceLT, Int.reduceLE, Int.reduceToNat, Int.reduceAdd, Int.reduceSub, Int.reduceMul, Nat.reducePow, e4, f1, f2, f3, f4, f5, l1, l3])
    | ((refine ACall.use [] [] rfl hexp rfl rfl rfl ?_; rintro _ _ ⟨⟨fl, rfl⟩, rfl⟩; refine ⟨.inl rfl, rfl, ?_⟩; simp only [bk, bk1, bkS, delAll, List.map_cons, List.map_nil]) <;> (try simp only [go_sem, Nat.reduceAdd, Nat.reduceSub, Nat.reduceMul, Nat.reduceLT, Nat.reduceLeDiff, Nat.reduceEqDiff, Nat.reduceDiv, Nat.reduceBEq, Int.reduceNeg, reduceCtorEq, ↓reduceIte, Int.reduceEq, Int.reduceLT, Int.reduceLE, Int.reduceToNat, Int.reduceAdd, Int.reduceSub, Int.reduceMul, Nat.reducePow, e4, f1, f2, f3, f4, f5, l1, l3]))
    | (refine hK _ _ ?_; clear hK K; simp only [prune, List.map_cons, List.map_nil, lk_hit, lk_miss, lk_nil, ne_eq, Nat.reduceEqDiff, not_false_eq_true])
    | (refine gd_split ?_ ?_ <;> intro hb <;> (try simp only [Bool.not_eq_true', Bool.not_eq_false', decide_eq_true_eq, decide_eq_false_iff_not, Bool.not_true, Bool.not_false, Bool.not_eq_true, Bool.not_eq_false] at hb) <;> simp only [go_sem, Nat.reduceAdd, Nat.reduceSub, Nat.reduceMul, Nat.reduceLT, Nat.reduceLeDiff, Nat.reduceEqDiff, Nat.reduceDiv, Nat.reduceBEq, Int.reduceNeg, reduceCtorEq, ↓reduceIte, Int.reduceEq, Int.reduceLT, Int.reduceLE, Int.reduceToNat, Int.reduceAdd, Int.reduceSub, Int.reduceMul, Nat.reducePow, e4, f1, f2, f3, f4, f5, l1, l3, hb])
    | (refine AGood.condT ?_ rfl ?_; focus (simp only [ev_tmp, ev_const, oc_bool, lk_hit, lk_miss, ne_eq, Nat.reduceEqDiff, not_false_eq_true]; done))
    | (refine AGood.condF ?_ rfl ?_; focus (simp only [ev_tmp, ev_const, oc_bool, lk_hit, lk_miss, ne_eq, Nat.reduceEqDiff, not_false_eq_true]; done))
    | (refine AGood.cond (by simp only [ev_tmp, ev_const, oc_bool, lk_hit, lk_miss, ne_eq, Nat.reduceEqDiff, not_false_eq_true]; rfl) rfl ?_ ?_ <;> intro hc <;> (try simp only [Bool.not_eq_true', Bool.not_eq_false', decide_eq_true_eq, decide_eq_false_iff_not, Bool.not_true, Bool.not_false, Bool.not_eq_true, Bool.not_eq_false] at hc) <;> (try simp only [hc, decide_true, decide_false, Bool.not_true, Bool.not_false]))
    | (intro _)
    | (refine And.intro ?_ ?_)
    | (refine AGood.retF LL_ok [] [.tmp 4] rfl ?_; simp only [sf_nil, sf_cons, go_sem, Nat.reduceAdd, Nat.reduceSub, Nat.reduceMul, Nat.reduceLT, Nat.reduceLeDiff, Nat.reduceEqDiff, Nat.reduceDiv, Nat.reduceBEq, Int.reduceNeg, reduceCtorEq, ↓reduceIte, Int.reduceEq, Int.reduceLT, Int.reduceLE, Int.reduceToNat, Int.reduceAdd, Int.reduceSub, Int.reduceMul, Nat.reducePow])
    | (refine AGood.doneF LL_ok [] [.tmp 4] rfl ?_; simp only [sf_nil, sf_cons, go_sem, Nat.reduceAdd, Nat.reduceSub, Nat.reduceMul, Nat.reduceLT, Nat.reduceLeDiff, Nat.reduceEqDiff, Nat.reduceDiv, Nat.reduceBEq, Int.reduceNeg, reduceCtorEq, ↓reduceIte, Int.reduceEq, Int.reduceLT, Int.reduceLE, Int.reduceToNat, Int.reduceAdd, Int.reduceSub, Int.reduceMul, Nat.reducePow]))
          all_goals first | omega | (unfold bigLen; omega) | exact ⟨_, _, ⟨rfl, rfl⟩, rfl⟩ | exact ⟨_, rfl⟩ | (rename_i hy; simp only [List.mem_singleton] at hy; subst hy; rfl) | skip
      · have hj1 : j = 1 := by omega
        subst hj1
        have f4 : ¬ (1 : Int) < (1 : Nat) := by omega
        have hsum : longSum i 1 = S0 := by simp [longSum, hS0]
        rw [hsum] at hlaw
        have hs : S0 ≤ 1024 := by omega
        rw [if_pos hs] at hlaw
        obtain ⟨rfl, hxl⟩ := hlaw
        simp only at hxl
        have f5 : ¬ (1024 : Int) < (S0 : Nat) := by omega
        have m3 : (nodes (longL 1)).length = 1 := by simp [longL]
        have m4 : (nodes (longL 1)).take 1 = nodes (longL 1) := List.take_of_length_le (by rw [m3]; exact Nat.le_refl _)
        repeat' (first
    | (refine AGood.at 23 ?_; (refine AGood.filt [909] ?_; simp only [sf_cons, sf_nil, go_sem, Nat.reduceAdd, Nat.reduceSub, Nat.reduceMul, Nat.reduceLT, Nat.reduceLeDiff, Nat.reduceEqDiff, Nat.reduceDiv, Nat.reduceBEq, Int.reduceNeg, reduceCtorEq, ↓reduceIte, Int.reduceEq, Int.reduceLT, Int.reduceLE, Int.reduceToNat, Int.reduceAdd, Int.reduceSub, Int.reduceMul, Nat.reducePow]; refine AGood.reRow 909 (nodes (longL 1)) rfl (by simp [longL, ISet.none]) ?_; simp only [go_sem, Nat.reduceAdd, Nat.reduceSub, Nat.reduceMul, Nat.reduceLT, Nat.reduceLeDiff, Nat.reduceEqDiff, Nat.reduceDiv, Nat.reduceBEq, Int.reduceNeg, reduceCtorEq, ↓reduceIte, Int.reduceEq, Int.reduceLT, Int.reduceLE, Int.reduceToNat, Int.reduceAdd, Int.reduceSub, Int.reduceMul, Nat.reducePow]; refine AGood.freeze 909 rfl ?_; simp only [rfT, rfS, rfO, rf, rf1, m3, m4, true_and, go_sem, Nat.reduceAdd, Nat.reduceSub, Nat.reduceMul, Nat.reduceLT, Nat.reduceLeDiff, Nat.reduceEqDiff, Nat.reduceDiv, Nat.reduceBEq, Int.reduceNeg, reduceCtorEq, ↓reduceIte, Int.reduceEq, Int.reduceLT, Int.reduceLE, Int.reduceToNat, Int.reduceAdd, Int.reduceSub, Int.reduceMul, Nat.reducePow]); (refine AGood.reg LL_ok [74] [0, 1, 4, 5, 6, 7, 8, 9, 10, 11, 12, 13, 14, 15, 25, 26, 27, 44, 45, 46, 62, 79] (by kernel_rfl) ?_; intro K hK; simp only [go_sem, Nat.reduceAdd, Nat.reduceSub, Nat.reduceMul, Nat.reduceLT, Nat.reduceLeDiff, Nat.reduceEqDiff, Nat.reduceDiv, Nat.reduceBEq, Int.reduceNeg, reduceCtorEq, ↓reduceIte, Int.reduceEq, Int.reduceLT, Int.reduceLE, Int.reduceToNat, Int.reduceAdd, Int.reduceSub, Int.reduceMul, Nat.reducePow, e4, f1, f2, f4, f5, l1, hxl]))
    | refine AGood.seq ?_
    | refine AGood.skip ?_
    | refine AGood.block ?_
    | refine AGood.inBlock ?_
    | refine AGood.exit rfl ?_
    | (refine AGood.reg LL_ok [74] [0, 1, 4, 5, 6, 7, 8, 9, 10, 11, 12, 13, 14, 15, 25, 26, 27, 44, 45, 46, 62, 79] (by kernel_rfl) ?_; intro K hK; simp only [go_sem, Nat.reduceAdd, Nat.reduceSub, Nat.reduceMul, Nat.reduceLT, Nat.reduceLeDiff, Nat.reduceEqDiff, Nat.reduceDiv, Nat.reduceBEq, Int.reduceNeg, reduceCtorEq, ↓reduceIte, Int.reduceEq, Int.reduceLT, Int.reduceLE, Int.reduceToNat, Int.reduceAdd, Int.reduceSub, Int.reduceMul, Nat.reducePow, e4, f1, f2, f4, f5, l1, hxl])
    | ((refine ACall.use [] [] rfl hexp rfl rfl rfl ?_; rintro _ _ ⟨⟨fl, rfl⟩, rfl⟩; refine ⟨.inl rfl, rfl, ?_⟩; simp only [bk, bk1, bkS, delAll, List.map_cons, List.map_nil]) <;> (try simp only [go_sem, Nat.reduceAdd, Nat.reduceSub, Nat.reduceMul, Nat.reduceLT, Nat.reduceLeDiff, Nat.reduceEqDiff, Nat.reduceDiv, Nat.reduceBEq, Int.reduceNeg, reduceCtorEq, ↓reduceIte, Int.reduceEq, Int.reduceLT, Int.reduceLE, Int.reduceToNat, Int.reduceAdd, Int.reduceSub, Int.reduceMul, Nat.reducePow, e4, f1, f2, f4, f5, l1, hxl]))
    | (refine hK _ _ ?_; clear hK K; simp only [prune, List.map_cons, List.map_nil, lk_hit, lk_miss, lk_nil, ne_eq, Nat.reduceEqDiff, not_false_eq_true])
    | (refine gd_split ?_ ?_ <;> intro hb <;> (try simp only [Bool.not_eq_true', Bool.not_eq_false', decide_eq_true_eq, decide_eq_false_iff_not, Bool.not_true, Bool.not_false, Bool.not_eq_true, Bool.not_eq_false] at hb) <;> simp only [go_sem, Nat.reduceAdd, Nat.reduceSub, Nat.reduceMul, Nat.reduceLT, Nat.reduceLeDiff, Nat.reduceEqDiff, Nat.reduceDiv, Nat.reduceBEq, Int.reduceNeg, reduceCtorEq, ↓reduceIte, Int.reduceEq, Int.reduceLT, Int.reduceLE, Int.reduceToNat, Int.reduceAdd, Int.reduceSub, Int.reduceMul, Nat.reducePow, e4, f1, f2, f4, f5, l1, hxl, hb])
    | (refine AGood.condT ?_ rfl ?_; focus (simp only [ev_tmp, ev_const, oc_bool, lk_hit, lk_miss, ne_eq, Nat.reduceEqDiff, not_false_eq_true]; done))
    | (refine AGood.condF ?_ rfl ?_; focus (simp only [ev_tmp, ev_const, oc_bool, lk_hit, lk_miss, ne_eq, Nat.reduceEqDiff, not_false_eq_true]; done))
    | (refine AGood.cond (by simp only [ev_tmp, ev_const, oc_bool, lk_hit, lk_miss, ne_eq, Nat.reduceEqDiff, not_false_eq_true]; rfl) rfl ?_ ?_ <;> intro hc <;> (try simp only [Bool.not_eq_true', Bool.not_eq_false', decide_eq_true_eq, decide_eq_false_iff_not, Bool.not_true, Bool.not_false, Bool.not_eq_true, Bool.not_eq_false] at hc) <;> (try simp only [hc, decide_true, decide_false, Bool.not_true, Bool.not_false]))
    | (intro _)
    | (refine And.intro ?_ ?_)
    | (refine AGood.retF LL_ok [] [.tmp 4] rfl ?_; simp only [sf_nil, sf_cons, go_sem, Nat.reduceAdd, Nat.reduceSub, Nat.reduceMul, Nat.reduceLT, Nat.reduceLeDiff, Nat.reduceEqDiff, Nat.reduceDiv, Nat.reduceBEq, Int.reduceNeg, reduceCtorEq, ↓reduceIte, Int.reduceEq, Int.reduceLT, Int.reduceLE, Int.reduceToNat, Int.reduceAdd, Int.reduceSub, Int.reduceMul, Nat.reducePow])
    | (refine AGood.doneF LL_ok [] [.tmp 4] rfl ?_; simp only [sf_nil, sf_cons, go_sem, Nat.reduceAdd, Nat.reduceSub, Nat.reduceMul, Nat.reduceLT, Nat.reduceLeDiff, Nat.reduceEqDiff, Nat.reduceDiv, Nat.reduceBEq, Int.reduceNeg, reduceCtorEq, ↓reduceIte, Int.reduceEq, Int.reduceLT, Int.reduceLE, Int.reduceToNat, Int.reduceAdd, Int.reduceSub, Int.reduceMul, Nat.reducePow]))
        all_goals first | omega | (unfold bigLen; omega) | exact ⟨_, _, ⟨rfl, rfl⟩, rfl⟩ | exact ⟨_, rfl⟩ | (rename_i hy; simp only [List.mem_singleton] at hy; subst hy; rfl) | skip
        simp [hS0]
end Go.Rad
