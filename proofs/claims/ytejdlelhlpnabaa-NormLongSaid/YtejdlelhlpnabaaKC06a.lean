/- Contracts: norm: a node is put. -/
import Derived.Test.YtejdlelhlpnabaaKC05c
import Derived.Test.YtejdlelhlpnabaaKRText
set_option linter.all false
namespace Go.Rad
open Go Go.Proofs
set_option linter.unusedSimpArgs false
set_option maxRecDepth 20000
set_option maxHeartbeats 4000000
attribute [local go_sem] vc_nil vc_move vc_assign vc_pick vc_alloc vc_box vc_build vc_buildSlice vc_load vc_store vc_nilCheck vc_bin_tmp vc_bin_int vc_bin_bool vc_bin_str vc_bin_agg vc_eqNil vc_neNil vc_unOp vc_convert vc_makeFunc vc_makeMap vc_makeSlice vc_slice vc_fieldAddr vc_field vc_indexAddr vc_index vc_lookup vc_mapUpdate vc_extract vc_builtin vc_call vc_guard gd_tt gd_ff gd_tf gd_ft gd_none pk_t pk_f nc_bx nc_loc nc_ref nc_fn cl_fn cl_fq kv_ap kvs_ap kvs_nil kvc_ap frq_ff frq_osl frO_row frq_sl frq_int frq_tup ks_ap kb_ap kb_ap' put_some put_none ev_tmp ev_const ev_func oc_int oc_bool oc_str oc_nil oc_sl oc_map oc_fn oc_agg oc1uint oc1ubool oc1ustr oc1unil oc1usl lk_hit lk_miss sget_hit sget_miss sget_nil sput_nil sput_hit sput_lt sput_gt vcRes_nil vcRes_tmp vcRes_cell retv_one retv_nil retv_more sdel_nil sdel_hit sdel_miss ld_bx ld_loc ld_ref ldB_box ldR_map mkv_ag mkv_one st_bx st_loc sn_bx sn_loc nr_sl nr_int nr_bool nr_str nr_ref nr_nil nr_nilfn nr_nilmap nr_fn nv_agg nv_sl nv_int nv_bool nv_str nv_ref nv_nil nv_fn stB_box stR_row fd_eq fdA_bx fdA_loc fdA_ref foff_st fo_eq foA_agg ix_eq ixA_osl ixO_row ixA_map ixA_abx ixA_aloc ixA_aref iv_eq ivA_str ivA_agg ex_tup ln_eq lnA_str lnA_sl lnA_osl lnA_arr bl_len bl_append bl_max bl_min el_sl el_osl elO_all elO_one elO_row ap_eq apA_sl apE_osl apO_row apE_nil mk_eq mkA_sl bs_eq bsA_sl bsC_some fc_nil fc_st fc_arr fc_sl fcA_some bb_eql bb_neq ba_eql ba_neq eqA_arr eqI_int eqN_some io_nil io_cons io_map ar_i64 ar_u8 ar_u16 ar_u32 ar_u64 ar_i32 un_not un_neg un_xor sl_eq slA_str slA_sl slA_osl ia_none ia_some sf_none sf_some cv_eq cvA_int cvA_str lu_eq luA_map luO_mp lv_some lv_none mu_eq muA_map muO_mp vn_sl vn_osl co_agg co_nil co_nilmap co_nilfn iw_agg iw_nil iw_nilmap iw_nilfn fz_nil fz_fn fz_osl ch_zero ch_succ ch_one sp_eq bi_add bi_sub bi_mul bi_quo bi_rem bi_and bi_or bi_xor bi_andNot bi_eql bi_neq bi_lss bi_leq bi_gtr bi_geq ii_add ii_sub ii_mul ii_quo ii_rem ii_and ii_or ii_xor ii_andNot ii_eql ii_neq ii_lss ii_leq ii_gtr ii_geq bi_shl bi_shr sh_shl sh_shr ss_add ss_eql ss_neq ss_lss ss_gtr ss_leq ss_geq co_bool iw_bool fz_bool co_int iw_int fz_int co_str iw_str fz_str co_sl iw_sl fz_sl co_ref iw_ref fz_ref co_osl iw_osl co_bx iw_bx co_loc iw_loc co_map iw_map co_fn iw_fn List.length_map List.map_cons List.map_nil List.append_nil List.nil_append List.cons_append List.length_cons List.length_nil List.getElem?_cons_zero List.getElem?_cons_succ List.getElem?_nil Option.map_some Option.map_none Option.some.injEq List.take_succ_cons List.take_zero List.drop_succ_cons List.drop_zero List.headD_cons List.all_cons List.all_nil List.replicate List.flatten_cons List.flatten_nil List.toList_toArray Array.toList_empty Nat.zero_add Nat.add_zero Nat.succ_eq_add_one Nat.le_refl List.contains_nil List.contains_cons Bool.or_false Bool.or_true Bool.false_or Bool.true_or Option.getD_some Option.getD_none ne_eq not_false_eq_true not_true_eq_false and_true true_and false_and and_self Bool.and_true Bool.true_and Bool.not_false Bool.not_true Bool.false_eq_true Bool.and_self if_true if_false ite_true ite_false exists_eq_left exists_eq_left' exists_and_left exists_eq forall_eq forall_eq' forall_const imp_self implies_true Option.isSome_none Option.isSome_some Option.isNone_none Prod.mk.injEq Ty.slice.injEq Ty.map.injEq Ty.array.injEq false_implies true_implies decide_true decide_false Int.toNat_natCast Int.toNat_zero Int.natCast_nonneg Int.cast_ofNat_Int Int.natCast_zero Int.natCast_one Nat.not_lt_zero Nat.zero_le Nat.zero_lt_succ Nat.zero_mul LL_1 LL_2 LL_3 LL_4 LL_5 LL_6 LL_7 LL_8 LL_9 LL_10 LL_11 LL_12 LL_13 LL_14 LL_15 LL_16 LL_17 LL_18 LL_19 LL_21 LL_22 LL_23 LL_24 LL_25 LL_27 LL_28 LL_29 LL_30 LL_31 LL_32 LL_33 LL_34 LL_35 LL_36 LL_37 LL_38 LL_39 LL_40 LL_41 LL_42 LL_43 LL_44 LL_45 LL_46 LL_47 LL_48 LL_49 LL_50 LL_51 LL_52 LL_53 LL_54 LL_56 LL_57 LL_58 LL_59 LL_60 LL_61 LL_63 LL_64 LL_65 LL_66 LL_67 LL_68 LL_69 LL_70 LL_71 LL_72 LL_73 LL_74 LL_75 LL_76 LL_77 LL_78 LL_79 LL_80 LL_81 LL_82 LL_83 LL_84 LL_85 LL_87 LL_88 LL_90 LL_91 LL_92 LL_93 LL_94 LL_95 LL_97 LL_98 LL_99 LL_100 LL_101 LL_102 LL_103 LL_104 LL_105 LL_106 LL_108 LL_109 LL_110 LL_111 LL_112 LL_113 LL_114 LL_115 LL_116 LL_117 LL_118 LL_119 LL_120 LL_121 LL_122 LL_123 LL_124 LL_125 LL_126 LL_127 LL_128 LL_131 LL_132 LL_133 LL_134 LL_135 LL_136 LL_137 LL_138 LL_139

theorem clone_c (q f : Bool) (l : List Int) (hl : l.length ≤ 1000000) : ACall Try.prog 66 [.sl q f (ints l)] [] fun r s => (l = [] ∧ r = .sl true true [] ∧ s = []) ∨ (∃ h, r = .osl 5 h 0 l.length ∧ s = [(5, (h, .row 1 (ints l)))]) := by
  refine ACall.enter Try.func66 rfl (by kernel_rfl) (Nat.le_of_ble_eq_true rfl) ?_; simp only [initTm, Nat.reduceAdd]
  repeat' (first
    | refine AGood.seq ?_
    | refine AGood.skip ?_
    | refine AGood.block ?_
    | refine AGood.inBlock ?_
    | refine AGood.exit rfl ?_
    | (refine AGood.reg LL_ok [] [0, 2, 4] (by kernel_rfl) ?_; intro K hK; simp only [go_sem, Nat.reduceAdd, Nat.reduceSub, Nat.reduceMul, Nat.reduceLT, Nat.reduceLeDiff, Nat.reduceEqDiff, Nat.reduceDiv, Nat.reduceBEq, Int.reduceNeg, reduceCtorEq, ↓reduceIte, Int.reduceEq, Int.reduceLT, Int.reduceLE, Int.reduceToNat, Int.reduceAdd, Int.reduceSub, Int.reduceMul, Nat.reducePow])
    | (refine hK _ _ ?_; clear hK K; simp only [prune, List.map_cons, List.map_nil, lk_hit, lk_miss, lk_nil, ne_eq, Nat.reduceEqDiff, not_false_eq_true])
    | (refine gd_split ?_ ?_ <;> intro hb <;> (try simp only [Bool.not_eq_true', Bool.not_eq_false', decide_eq_true_eq, decide_eq_false_iff_not, Bool.not_true, Bool.not_false, Bool.not_eq_true, Bool.not_eq_false] at hb) <;> simp only [go_sem, Nat.reduceAdd, Nat.reduceSub, Nat.reduceMul, Nat.reduceLT, Nat.reduceLeDiff, Nat.reduceEqDiff, Nat.reduceDiv, Nat.reduceBEq, Int.reduceNeg, reduceCtorEq, ↓reduceIte, Int.reduceEq, Int.reduceLT, Int.reduceLE, Int.reduceToNat, Int.reduceAdd, Int.reduceSub, Int.reduceMul, Nat.reducePow, hb])
    | (refine AGood.condT ?_ rfl ?_; focus (simp only [ev_tmp, ev_const, oc_bool, lk_hit, lk_miss, ne_eq, Nat.reduceEqDiff, not_false_eq_true]; done))
    | (refine AGood.condF ?_ rfl ?_; focus (simp only [ev_tmp, ev_const, oc_bool, lk_hit, lk_miss, ne_eq, Nat.reduceEqDiff, not_false_eq_true]; done))
    | (refine AGood.cond (by simp only [ev_tmp, ev_const, oc_bool, lk_hit, lk_miss, ne_eq, Nat.reduceEqDiff, not_false_eq_true]; rfl) rfl ?_ ?_ <;> intro hc <;> (try simp only [Bool.not_eq_true', Bool.not_eq_false', decide_eq_true_eq, decide_eq_false_iff_not, Bool.not_true, Bool.not_false, Bool.not_eq_true, Bool.not_eq_false] at hc) <;> (try simp only [hc, decide_true, decide_false, Bool.not_true, Bool.not_false]))
    | (intro _)
    | (refine And.intro ?_ ?_)
    | (refine AGood.retF LL_ok [5] [.tmp 2] rfl ?_; simp only [sf_nil, sf_cons, go_sem, Nat.reduceAdd, Nat.reduceSub, Nat.reduceMul, Nat.reduceLT, Nat.reduceLeDiff, Nat.reduceEqDiff, Nat.reduceDiv, Nat.reduceBEq, Int.reduceNeg, reduceCtorEq, ↓reduceIte, Int.reduceEq, Int.reduceLT, Int.reduceLE, Int.reduceToNat, Int.reduceAdd, Int.reduceSub, Int.reduceMul, Nat.reducePow])
    | (refine AGood.doneF LL_ok [5] [.tmp 2] rfl ?_; simp only [sf_nil, sf_cons, go_sem, Nat.reduceAdd, Nat.reduceSub, Nat.reduceMul, Nat.reduceLT, Nat.reduceLeDiff, Nat.reduceEqDiff, Nat.reduceDiv, Nat.reduceBEq, Int.reduceNeg, reduceCtorEq, ↓reduceIte, Int.reduceEq, Int.reduceLT, Int.reduceLE, Int.reduceToNat, Int.reduceAdd, Int.reduceSub, Int.reduceMul, Nat.reducePow]))
  all_goals first | omega | (unfold bigLen; omega) | exact ⟨_, _, ⟨rfl, rfl⟩, rfl⟩ | exact ⟨_, rfl⟩ | (rename_i hy; simp only [List.mem_singleton] at hy; subst hy; rfl) | skip
  · rename_i h; exact .inl (by simpa using h hc)
  · rename_i y hy; obtain ⟨k, _, rfl⟩ := List.mem_map.1 hy; rfl
  · rename_i y hy; obtain ⟨k, _, rfl⟩ := List.mem_map.1 hy; rfl
  · rename_i h; exact .inr ⟨h, by simp⟩

abbrev xbox (g2 g3 g1 n : Nat) : AObj := .box [.map 1002 g2, .map 1003 g3, .osl 1001 g1 0 n]
abbrev xsto (g g1 g2 g3 : Nat) (dm om : List (ByteArray × AVal)) (out : List Node) : Sto := [(1000, (g, xbox g2 g3 g1 out.length)), (1001, (g1, .row 9 (nodes out))), (1002, (g2, .mp dm)), (1003, (g3, .mp om))]
theorem put_c (n : Node) (q f : Bool) (A : List Int) (out : List Node) (g g1 g2 g3 : Nat) (dm om : List (ByteArray × AVal)) (hk : ∀ k ∈ n.l, 0 ≤ k ∧ k < A.length) (hn : n.l.length ≤ 1000000) (ho : out.length ≤ 1000000) :
    ACall Try.prog 51 [.bx 1000 g 0, .agg n.cells, .sl q f (ints A)] (xsto g g1 g2 g3 dm om out) fun r s => r = .tup [.int .i64 (putS n A out).2.1, .int .i64 (putS n A out).2.2] ∧ ∃ h1, s = xsto g h1 g2 g3 dm om (putS n A out).1 := by
  obtain ⟨xo, ⟨xa, xb, xc, xd⟩, xl, xlo, xhi, xn⟩ := n
  simp only at hk hn
  simp only [xsto, xbox, Node.cells, Node.cellsF]
  refine ACall.enter Try.func51 rfl (by kernel_rfl) (Nat.le_of_ble_eq_true rfl) ?_; simp only [initTm, Nat.reduceAdd]
  by_cases hlong : 1024 ≤ out.length
  · have e1 : (1024 : Int) ≤ out.length := by omega
    repeat' (first
    | refine AGood.seq ?_
    | refine AGood.skip ?_
    | refine AGood.block ?_
    | refine AGood.inBlock ?_
    | refine AGood.exit rfl ?_
    | (refine AGood.reg LL_ok [43] [0, 1, 2, 4, 6, 7, 8, 9, 15, 21, 22, 23, 24] (by kernel_rfl) ?_; intro K hK; simp only [go_sem, Nat.reduceAdd, Nat.reduceSub, Nat.reduceMul, Nat.reduceLT, Nat.reduceLeDiff, Nat.reduceEqDiff, Nat.reduceDiv, Nat.reduceBEq, Int.reduceNeg, reduceCtorEq, ↓reduceIte, Int.reduceEq, Int.reduceLT, Int.reduceLE, Int.reduceToNat, Int.reduceAdd, Int.reduceSub, Int.reduceMul, Nat.reducePow, e1])
    | (refine AGood.at 7 ?_; refine AGood.drawn LL_ok mixed [43] 8 [0, 1, 2, 3, 4, 5, 6, 7, 8] [0, 1, 2, 4, 6, 7, 8, 9, 15, 21, 22, 23, 24] (by kernel_rfl) (by rfl) ?_; intro K hK; simp only [List.take_succ_cons, List.take_zero, List.drop_succ_cons, List.drop_zero, List.filterMap_cons_some, List.filterMap_nil, go_sem, Nat.reduceAdd, Nat.reduceSub, Nat.reduceMul, Nat.reduceLT, Nat.reduceLeDiff, Nat.reduceEqDiff, Nat.reduceDiv, Nat.reduceBEq, Int.reduceNeg, reduceCtorEq, ↓reduceIte, Int.reduceEq, Int.reduceLT, Int.reduceLE, Int.reduceToNat, Int.reduceAdd, Int.reduceSub, Int.reduceMul, Nat.reducePow, e1])
    | (refine AGood.at 9 ?_; refine AGood.drawn LL_ok mixed [43] 7 [0, 1, 2, 3, 4, 5, 6, 7, 8, 9, 10] [0, 1, 2, 4, 6, 7, 8, 9, 15, 21, 22, 23, 24] (by kernel_rfl) (by rfl) ?_; intro K hK; simp only [List.take_succ_cons, List.take_zero, List.drop_succ_cons, List.drop_zero, List.filterMap_cons_some, List.filterMap_nil, go_sem, Nat.reduceAdd, Nat.reduceSub, Nat.reduceMul, Nat.reduceLT, Nat.reduceLeDiff, Nat.reduceEqDiff, Nat.reduceDiv, Nat.reduceBEq, Int.reduceNeg, reduceCtorEq, ↓reduceIte, Int.reduceEq, Int.reduceLT, Int.reduceLE, Int.reduceToNat, Int.reduceAdd, Int.reduceSub, Int.reduceMul, Nat.reducePow, e1])
    | (refine hK _ _ ?_; clear hK K; simp only [prune, List.map_cons, List.map_nil, lk_hit, lk_miss, lk_nil, ne_eq, Nat.reduceEqDiff, not_false_eq_true])
    | (refine gd_split ?_ ?_ <;> intro hb <;> (try simp only [Bool.not_eq_true', Bool.not_eq_false', decide_eq_true_eq, decide_eq_false_iff_not, Bool.not_true, Bool.not_false, Bool.not_eq_true, Bool.not_eq_false] at hb) <;> simp only [go_sem, Nat.reduceAdd, Nat.reduceSub, Nat.reduceMul, Nat.reduceLT, Nat.reduceLeDiff, Nat.reduceEqDiff, Nat.reduceDiv, Nat.reduceBEq, Int.reduceNeg, reduceCtorEq, ↓reduceIte, Int.reduceEq, Int.reduceLT, Int.reduceLE, Int.reduceToNat, Int.reduceAdd, Int.reduceSub, Int.reduceMul, Nat.reducePow, e1, hb])
    | (refine AGood.condT ?_ rfl ?_; focus (simp only [ev_tmp, ev_const, oc_bool, lk_hit, lk_miss, ne_eq, Nat.reduceEqDiff, not_false_eq_true]; done))
    | (refine AGood.condF ?_ rfl ?_; focus (simp only [ev_tmp, ev_const, oc_bool, lk_hit, lk_miss, ne_eq, Nat.reduceEqDiff, not_false_eq_true]; done))
    | (refine AGood.cond (by simp only [ev_tmp, ev_const, oc_bool, lk_hit, lk_miss, ne_eq, Nat.reduceEqDiff, not_false_eq_true]; rfl) rfl ?_ ?_ <;> intro hc <;> (try simp only [Bool.not_eq_true', Bool.not_eq_false', decide_eq_true_eq, decide_eq_false_iff_not, Bool.not_true, Bool.not_false, Bool.not_eq_true, Bool.not_eq_false] at hc) <;> (try simp only [hc, decide_true, decide_false, Bool.not_true, Bool.not_false]))
    | (intro _)
    | (refine And.intro ?_ ?_)
    | (refine AGood.retF LL_ok [1000, 1001, 1002, 1003] [.tmp 6, .tmp 7] rfl ?_; simp only [sf_nil, sf_cons, go_sem, Nat.reduceAdd, Nat.reduceSub, Nat.reduceMul, Nat.reduceLT, Nat.reduceLeDiff, Nat.reduceEqDiff, Nat.reduceDiv, Nat.reduceBEq, Int.reduceNeg, reduceCtorEq, ↓reduceIte, Int.reduceEq, Int.reduceLT, Int.reduceLE, Int.reduceToNat, Int.reduceAdd, Int.reduceSub, Int.reduceMul, Nat.reducePow])
    | (refine AGood.doneF LL_ok [1000, 1001, 1002, 1003] [.tmp 6, .tmp 7] rfl ?_; simp only [sf_nil, sf_cons, go_sem, Nat.reduceAdd, Nat.reduceSub, Nat.reduceMul, Nat.reduceLT, Nat.reduceLeDiff, Nat.reduceEqDiff, Nat.reduceDiv, Nat.reduceBEq, Int.reduceNeg, reduceCtorEq, ↓reduceIte, Int.reduceEq, Int.reduceLT, Int.reduceLE, Int.reduceToNat, Int.reduceAdd, Int.reduceSub, Int.reduceMul, Nat.reducePow]))
    · simp [putS, hlong]
    · exact ⟨g1, by simp [putS, hlong]⟩
  · have e1 : ¬ (1024 : Int) ≤ out.length := by omega
    have hp : putS ⟨xo, ⟨xa, xb, xc, xd⟩, xl, xlo, xhi, xn⟩ A out = (out ++ [⟨xo, ⟨xa, xb, xc, xd⟩, xl.map (atF A), xlo, xhi, xn⟩], (out.length : Int), 0) := by simp only [putS, if_neg hlong]
    rw [hp]; clear hp
    simp only
    repeat' (first
    | refine AGood.seq ?_
    | refine AGood.skip ?_
    | refine AGood.block ?_
    | refine AGood.inBlock ?_
    | refine AGood.exit rfl ?_
    | (refine AGood.reg LL_ok [43] [0, 1, 2, 4, 6, 7, 8, 9, 15, 21, 22, 23, 24] (by kernel_rfl) ?_; intro K hK; simp only [go_sem, Nat.reduceAdd, Nat.reduceSub, Nat.reduceMul, Nat.reduceLT, Nat.reduceLeDiff, Nat.reduceEqDiff, Nat.reduceDiv, Nat.reduceBEq, Int.reduceNeg, reduceCtorEq, ↓reduceIte, Int.reduceEq, Int.reduceLT, Int.reduceLE, Int.reduceToNat, Int.reduceAdd, Int.reduceSub, Int.reduceMul, Nat.reducePow, e1])
    | (refine AGood.at 7 ?_; refine AGood.drawn LL_ok mixed [43] 8 [0, 1, 2, 3, 4, 5, 6, 7, 8] [0, 1, 2, 4, 6, 7, 8, 9, 15, 21, 22, 23, 24] (by kernel_rfl) (by rfl) ?_; intro K hK; simp only [List.take_succ_cons, List.take_zero, List.drop_succ_cons, List.drop_zero, List.filterMap_cons_some, List.filterMap_nil, go_sem, Nat.reduceAdd, Nat.reduceSub, Nat.reduceMul, Nat.reduceLT, Nat.reduceLeDiff, Nat.reduceEqDiff, Nat.reduceDiv, Nat.reduceBEq, Int.reduceNeg, reduceCtorEq, ↓reduceIte, Int.reduceEq, Int.reduceLT, Int.reduceLE, Int.reduceToNat, Int.reduceAdd, Int.reduceSub, Int.reduceMul, Nat.reducePow, e1])
    | (refine AGood.at 9 ?_; refine AGood.drawn LL_ok mixed [43] 7 [0, 1, 2, 3, 4, 5, 6, 7, 8, 9, 10] [0, 1, 2, 4, 6, 7, 8, 9, 15, 21, 22, 23, 24] (by kernel_rfl) (by rfl) ?_; intro K hK; simp only [List.take_succ_cons, List.take_zero, List.drop_succ_cons, List.drop_zero, List.filterMap_cons_some, List.filterMap_nil, go_sem, Nat.reduceAdd, Nat.reduceSub, Nat.reduceMul, Nat.reduceLT, Nat.reduceLeDiff, Nat.reduceEqDiff, Nat.reduceDiv, Nat.reduceBEq, Int.reduceNeg, reduceCtorEq, ↓reduceIte, Int.reduceEq, Int.reduceLT, Int.reduceLE, Int.reduceToNat, Int.reduceAdd, Int.reduceSub, Int.reduceMul, Nat.reducePow, e1])
    | ((refine ACall.use [(5, 18)] [] rfl (clone_c true false xl hn) rfl rfl rfl ?_; rintro _ _ (⟨rfl, rfl, rfl⟩ | ⟨h5, rfl, rfl⟩) <;> refine ⟨.inl rfl, rfl, ?_⟩ <;> simp only [bk, bk1, bkS, bkO, idOf, delAll, go_sem, Nat.reduceAdd, Nat.reduceSub, Nat.reduceMul, Nat.reduceLT, Nat.reduceLeDiff, Nat.reduceEqDiff, Nat.reduceDiv, Nat.reduceBEq, Int.reduceNeg, reduceCtorEq, ↓reduceIte, Int.reduceEq, Int.reduceLT, Int.reduceLE, Int.reduceToNat, Int.reduceAdd, Int.reduceSub, Int.reduceMul, Nat.reducePow]) <;> (try simp only [go_sem, Nat.reduceAdd, Nat.reduceSub, Nat.reduceMul, Nat.reduceLT, Nat.reduceLeDiff, Nat.reduceEqDiff, Nat.reduceDiv, Nat.reduceBEq, Int.reduceNeg, reduceCtorEq, ↓reduceIte, Int.reduceEq, Int.reduceLT, Int.reduceLE, Int.reduceToNat, Int.reduceAdd, Int.reduceSub, Int.reduceMul, Nat.reducePow, e1]))
    | (refine hK _ _ ?_; clear hK K; simp only [prune, List.map_cons, List.map_nil, lk_hit, lk_miss, lk_nil, ne_eq, Nat.reduceEqDiff, not_false_eq_true])
    | (refine gd_split ?_ ?_ <;> intro hb <;> (try simp only [Bool.not_eq_true', Bool.not_eq_false', decide_eq_true_eq, decide_eq_false_iff_not, Bool.not_true, Bool.not_false, Bool.not_eq_true, Bool.not_eq_false] at hb) <;> simp only [go_sem, Nat.reduceAdd, Nat.reduceSub, Nat.reduceMul, Nat.reduceLT, Nat.reduceLeDiff, Nat.reduceEqDiff, Nat.reduceDiv, Nat.reduceBEq, Int.reduceNeg, reduceCtorEq, ↓reduceIte, Int.reduceEq, Int.reduceLT, Int.reduceLE, Int.reduceToNat, Int.reduceAdd, Int.reduceSub, Int.reduceMul, Nat.reducePow, e1, hb])
    | (refine AGood.condT ?_ rfl ?_; focus (simp only [ev_tmp, ev_const, oc_bool, lk_hit, lk_miss, ne_eq, Nat.reduceEqDiff, not_false_eq_true]; done))
    | (refine AGood.condF ?_ rfl ?_; focus (simp only [ev_tmp, ev_const, oc_bool, lk_hit, lk_miss, ne_eq, Nat.reduceEqDiff, not_false_eq_true]; done))
    | (refine AGood.cond (by simp only [ev_tmp, ev_const, oc_bool, lk_hit, lk_miss, ne_eq, Nat.reduceEqDiff, not_false_eq_true]; rfl) rfl ?_ ?_ <;> intro hc <;> (try simp only [Bool.not_eq_true', Bool.not_eq_false', decide_eq_true_eq, decide_eq_false_iff_not, Bool.not_true, Bool.not_false, Bool.not_eq_true, Bool.not_eq_false] at hc) <;> (try simp only [hc, decide_true, decide_false, Bool.not_true, Bool.not_false]))
    | (intro _)
    | (refine And.intro ?_ ?_)
    | (refine AGood.retF LL_ok [1000, 1001, 1002, 1003] [.tmp 6, .tmp 7] rfl ?_; simp only [sf_nil, sf_cons, go_sem, Nat.reduceAdd, Nat.reduceSub, Nat.reduceMul, Nat.reduceLT, Nat.reduceLeDiff, Nat.reduceEqDiff, Nat.reduceDiv, Nat.reduceBEq, Int.reduceNeg, reduceCtorEq, ↓reduceIte, Int.reduceEq, Int.reduceLT, Int.reduceLE, Int.reduceToNat, Int.reduceAdd, Int.reduceSub, Int.reduceMul, Nat.reducePow])
    | (refine AGood.doneF LL_ok [1000, 1001, 1002, 1003] [.tmp 6, .tmp 7] rfl ?_; simp only [sf_nil, sf_cons, go_sem, Nat.reduceAdd, Nat.reduceSub, Nat.reduceMul, Nat.reduceLT, Nat.reduceLeDiff, Nat.reduceEqDiff, Nat.reduceDiv, Nat.reduceBEq, Int.reduceNeg, reduceCtorEq, ↓reduceIte, Int.reduceEq, Int.reduceLT, Int.reduceLE, Int.reduceToNat, Int.reduceAdd, Int.reduceSub, Int.reduceMul, Nat.reducePow]))
    · refine AGood.loop ?_
      repeat' (first
    | refine AGood.seq ?_
    | refine AGood.skip ?_
    | refine AGood.block ?_
    | refine AGood.inBlock ?_
    | refine AGood.exit rfl ?_
    | (refine AGood.reg LL_ok [43] [0, 1, 2, 4, 6, 7, 8, 9, 15, 21, 22, 23, 24] (by kernel_rfl) ?_; intro K hK; simp only [go_sem, Nat.reduceAdd, Nat.reduceSub, Nat.reduceMul, Nat.reduceLT, Nat.reduceLeDiff, Nat.reduceEqDiff, Nat.reduceDiv, Nat.reduceBEq, Int.reduceNeg, reduceCtorEq, ↓reduceIte, Int.reduceEq, Int.reduceLT, Int.reduceLE, Int.reduceToNat, Int.reduceAdd, Int.reduceSub, Int.reduceMul, Nat.reducePow, e1])
    | (refine AGood.at 7 ?_; refine AGood.drawn LL_ok mixed [43] 8 [0, 1, 2, 3, 4, 5, 6, 7, 8] [0, 1, 2, 4, 6, 7, 8, 9, 15, 21, 22, 23, 24] (by kernel_rfl) (by rfl) ?_; intro K hK; simp only [List.take_succ_cons, List.take_zero, List.drop_succ_cons, List.drop_zero, List.filterMap_cons_some, List.filterMap_nil, go_sem, Nat.reduceAdd, Nat.reduceSub, Nat.reduceMul, Nat.reduceLT, Nat.reduceLeDiff, Nat.reduceEqDiff, Nat.reduceDiv, Nat.reduceBEq, Int.reduceNeg, reduceCtorEq, ↓reduceIte, Int.reduceEq, Int.reduceLT, Int.reduceLE, Int.reduceToNat, Int.reduceAdd, Int.reduceSub, Int.reduceMul, Nat.reducePow, e1])
    | (refine AGood.at 9 ?_; refine AGood.drawn LL_ok mixed [43] 7 [0, 1, 2, 3, 4, 5, 6, 7, 8, 9, 10] [0, 1, 2, 4, 6, 7, 8, 9, 15, 21, 22, 23, 24] (by kernel_rfl) (by rfl) ?_; intro K hK; simp only [List.take_succ_cons, List.take_zero, List.drop_succ_cons, List.drop_zero, List.filterMap_cons_some, List.filterMap_nil, go_sem, Nat.reduceAdd, Nat.reduceSub, Nat.reduceMul, Nat.reduceLT, Nat.reduceLeDiff, Nat.reduceEqDiff, Nat.reduceDiv, Nat.reduceBEq, Int.reduceNeg, reduceCtorEq, ↓reduceIte, Int.reduceEq, Int.reduceLT, Int.reduceLE, Int.reduceToNat, Int.reduceAdd, Int.reduceSub, Int.reduceMul, Nat.reducePow, e1])
    | (refine hK _ _ ?_; clear hK K; simp only [prune, List.map_cons, List.map_nil, lk_hit, lk_miss, lk_nil, ne_eq, Nat.reduceEqDiff, not_false_eq_true])
    | (refine gd_split ?_ ?_ <;> intro hb <;> (try simp only [Bool.not_eq_true', Bool.not_eq_false', decide_eq_true_eq, decide_eq_false_iff_not, Bool.not_true, Bool.not_false, Bool.not_eq_true, Bool.not_eq_false] at hb) <;> simp only [go_sem, Nat.reduceAdd, Nat.reduceSub, Nat.reduceMul, Nat.reduceLT, Nat.reduceLeDiff, Nat.reduceEqDiff, Nat.reduceDiv, Nat.reduceBEq, Int.reduceNeg, reduceCtorEq, ↓reduceIte, Int.reduceEq, Int.reduceLT, Int.reduceLE, Int.reduceToNat, Int.reduceAdd, Int.reduceSub, Int.reduceMul, Nat.reducePow, e1, hb])
    | (refine AGood.condT ?_ rfl ?_; focus (simp only [ev_tmp, ev_const, oc_bool, lk_hit, lk_miss, ne_eq, Nat.reduceEqDiff, not_false_eq_true]; done))
    | (refine AGood.condF ?_ rfl ?_; focus (simp only [ev_tmp, ev_const, oc_bool, lk_hit, lk_miss, ne_eq, Nat.reduceEqDiff, not_false_eq_true]; done))
    | (refine AGood.cond (by simp only [ev_tmp, ev_const, oc_bool, lk_hit, lk_miss, ne_eq, Nat.reduceEqDiff, not_false_eq_true]; rfl) rfl ?_ ?_ <;> intro hc <;> (try simp only [Bool.not_eq_true', Bool.not_eq_false', decide_eq_true_eq, decide_eq_false_iff_not, Bool.not_true, Bool.not_false, Bool.not_eq_true, Bool.not_eq_false] at hc) <;> (try simp only [hc, decide_true, decide_false, Bool.not_true, Bool.not_false]))
    | (intro _)
    | (refine And.intro ?_ ?_)
    | (refine AGood.retF LL_ok [1000, 1001, 1002, 1003] [.tmp 6, .tmp 7] rfl ?_; simp only [sf_nil, sf_cons, go_sem, Nat.reduceAdd, Nat.reduceSub, Nat.reduceMul, Nat.reduceLT, Nat.reduceLeDiff, Nat.reduceEqDiff, Nat.reduceDiv, Nat.reduceBEq, Int.reduceNeg, reduceCtorEq, ↓reduceIte, Int.reduceEq, Int.reduceLT, Int.reduceLE, Int.reduceToNat, Int.reduceAdd, Int.reduceSub, Int.reduceMul, Nat.reducePow])
    | (refine AGood.doneF LL_ok [1000, 1001, 1002, 1003] [.tmp 6, .tmp 7] rfl ?_; simp only [sf_nil, sf_cons, go_sem, Nat.reduceAdd, Nat.reduceSub, Nat.reduceMul, Nat.reduceLT, Nat.reduceLeDiff, Nat.reduceEqDiff, Nat.reduceDiv, Nat.reduceBEq, Int.reduceNeg, reduceCtorEq, ↓reduceIte, Int.reduceEq, Int.reduceLT, Int.reduceLE, Int.reduceToNat, Int.reduceAdd, Int.reduceSub, Int.reduceMul, Nat.reducePow]))
      all_goals first | omega | (unfold bigLen; omega) | exact ⟨_, _, ⟨rfl, rfl⟩, rfl⟩ | exact ⟨_, rfl⟩ | (rename_i hy; simp only [List.mem_singleton] at hy; subst hy; rfl) | skip
      · simp
      · rename_i h' ; exact ⟨h', by simp⟩
    · rename_i h4
      refine AGood.prune [0, 2, 4, 21, 22, 23] ?_; simp only [prune, List.map_cons, List.map_nil, lk_hit, lk_miss, lk_nil, ne_eq, Nat.reduceEqDiff, not_false_eq_true]
      refine AGood.loopInv (α := Nat × List Int) (fun x => ([(0, .bx 1000 g 0), (2, .sl q f (ints A)), (4, .bx 4 h4 0), (21, .osl 18 h5 0 xl.length), (22, .int .i64 xl.length), (23, .int .i64 x.1)],
        [(4, h4, .box [.int .u8 xo, .int .u64 xa, .int .u64 xb, .int .u64 xc, .int .u64 xd, .osl 18 h5 0 xl.length, .int .i64 xlo, .int .i64 xhi, .str xn]), (18, h5, .row 1 (ints x.2)), (1000, g, .box [.map 1002 g2, .map 1003 g3, .osl 1001 g1 0 out.length]), (1001, g1, .row 9 (nodes out)), (1002, g2, .mp dm), (1003, g3, .mp om)]))
        (fun x => x.1 ≤ xl.length ∧ x.2 = (xl.take x.1).map (atF A) ++ xl.drop x.1) (fun x => xl.length - x.1) (0, xl) ⟨Nat.zero_le _, by simp⟩ rfl ?_
      rintro ⟨i, W⟩ ⟨hi, hW⟩ ih
      simp only at hi hW ih ⊢
      by_cases hle : i < xl.length
      · have e4 : (i : Int) < xl.length := by omega
        have e5 : (0 : Int) ≤ i := by omega
        have hk2 : xl[i]? = some xl[i] := List.getElem?_eq_getElem hle
        have hmem := hk xl[i] (List.getElem_mem hle)
        generalize xl[i] = k at hk2 hmem
        obtain ⟨w1, w2, w3⟩ := put_row hW hk2
        have e6 : i < W.length := by omega
        obtain ⟨m, rfl⟩ : ∃ m : Nat, k = m := ⟨k.toNat, by omega⟩
        have e7 : (m : Int) < A.length := hmem.2
        have e8 : (0 : Int) ≤ m := by omega
        have hA : A[m]? = some (atF A m) := by
          have : m < A.length := by omega
          simp [atF, List.getElem?_eq_getElem this]
        repeat' (first
    | refine AGood.seq ?_
    | refine AGood.skip ?_
    | refine AGood.block ?_
    | refine AGood.inBlock ?_
    | refine AGood.exit rfl ?_
    | (refine AGood.reg LL_ok [43] [0, 1, 2, 4, 6, 7, 8, 9, 15, 21, 22, 23, 24] (by kernel_rfl) ?_; intro K hK; simp only [go_sem, Nat.reduceAdd, Nat.reduceSub, Nat.reduceMul, Nat.reduceLT, Nat.reduceLeDiff, Nat.reduceEqDiff, Nat.reduceDiv, Nat.reduceBEq, Int.reduceNeg, reduceCtorEq, ↓reduceIte, Int.reduceEq, Int.reduceLT, Int.reduceLE, Int.reduceToNat, Int.reduceAdd, Int.reduceSub, Int.reduceMul, Nat.reducePow, e1, e4, e5, e6, e7, e8, w2, hA, Option.some.injEq, forall_eq'])
    | (refine AGood.at 7 ?_; refine AGood.drawn LL_ok mixed [43] 8 [0, 1, 2, 3, 4, 5, 6, 7, 8] [0, 1, 2, 4, 6, 7, 8, 9, 15, 21, 22, 23, 24] (by kernel_rfl) (by rfl) ?_; intro K hK; simp only [List.take_succ_cons, List.take_zero, List.drop_succ_cons, List.drop_zero, List.filterMap_cons_some, List.filterMap_nil, go_sem, Nat.reduceAdd, Nat.reduceSub, Nat.reduceMul, Nat.reduceLT, Nat.reduceLeDiff, Nat.reduceEqDiff, Nat.reduceDiv, Nat.reduceBEq, Int.reduceNeg, reduceCtorEq, ↓reduceIte, Int.reduceEq, Int.reduceLT, Int.reduceLE, Int.reduceToNat, Int.reduceAdd, Int.reduceSub, Int.reduceMul, Nat.reducePow, e1, e4, e5, e6, e7, e8, w2, hA, Option.some.injEq, forall_eq'])
    | (refine AGood.at 9 ?_; refine AGood.drawn LL_ok mixed [43] 7 [0, 1, 2, 3, 4, 5, 6, 7, 8, 9, 10] [0, 1, 2, 4, 6, 7, 8, 9, 15, 21, 22, 23, 24] (by kernel_rfl) (by rfl) ?_; intro K hK; simp only [List.take_succ_cons, List.take_zero, List.drop_succ_cons, List.drop_zero, List.filterMap_cons_some, List.filterMap_nil, go_sem, Nat.reduceAdd, Nat.reduceSub, Nat.reduceMul, Nat.reduceLT, Nat.reduceLeDiff, Nat.reduceEqDiff, Nat.reduceDiv, Nat.reduceBEq, Int.reduceNeg, reduceCtorEq, ↓reduceIte, Int.reduceEq, Int.reduceLT, Int.reduceLE, Int.reduceToNat, Int.reduceAdd, Int.reduceSub, Int.reduceMul, Nat.reducePow, e1, e4, e5, e6, e7, e8, w2, hA, Option.some.injEq, forall_eq'])
    | (refine hK _ _ ?_; clear hK K; simp only [prune, List.map_cons, List.map_nil, lk_hit, lk_miss, lk_nil, ne_eq, Nat.reduceEqDiff, not_false_eq_true])
    | (refine gd_split ?_ ?_ <;> intro hb <;> (try simp only [Bool.not_eq_true', Bool.not_eq_false', decide_eq_true_eq, decide_eq_false_iff_not, Bool.not_true, Bool.not_false, Bool.not_eq_true, Bool.not_eq_false] at hb) <;> simp only [go_sem, Nat.reduceAdd, Nat.reduceSub, Nat.reduceMul, Nat.reduceLT, Nat.reduceLeDiff, Nat.reduceEqDiff, Nat.reduceDiv, Nat.reduceBEq, Int.reduceNeg, reduceCtorEq, ↓reduceIte, Int.reduceEq, Int.reduceLT, Int.reduceLE, Int.reduceToNat, Int.reduceAdd, Int.reduceSub, Int.reduceMul, Nat.reducePow, e1, e4, e5, e6, e7, e8, w2, hA, Option.some.injEq, forall_eq', hb])
    | (refine AGood.condT ?_ rfl ?_; focus (simp only [ev_tmp, ev_const, oc_bool, lk_hit, lk_miss, ne_eq, Nat.reduceEqDiff, not_false_eq_true]; done))
    | (refine AGood.condF ?_ rfl ?_; focus (simp only [ev_tmp, ev_const, oc_bool, lk_hit, lk_miss, ne_eq, Nat.reduceEqDiff, not_false_eq_true]; done))
    | (refine AGood.cond (by simp only [ev_tmp, ev_const, oc_bool, lk_hit, lk_miss, ne_eq, Nat.reduceEqDiff, not_false_eq_true]; rfl) rfl ?_ ?_ <;> intro hc <;> (try simp only [Bool.not_eq_true', Bool.not_eq_false', decide_eq_true_eq, decide_eq_false_iff_not, Bool.not_true, Bool.not_false, Bool.not_eq_true, Bool.not_eq_false] at hc) <;> (try simp only [hc, decide_true, decide_false, Bool.not_true, Bool.not_false]))
    | (intro _)
    | (refine And.intro ?_ ?_)
    | (refine AGood.retF LL_ok [1000, 1001, 1002, 1003] [.tmp 6, .tmp 7] rfl ?_; simp only [sf_nil, sf_cons, go_sem, Nat.reduceAdd, Nat.reduceSub, Nat.reduceMul, Nat.reduceLT, Nat.reduceLeDiff, Nat.reduceEqDiff, Nat.reduceDiv, Nat.reduceBEq, Int.reduceNeg, reduceCtorEq, ↓reduceIte, Int.reduceEq, Int.reduceLT, Int.reduceLE, Int.reduceToNat, Int.reduceAdd, Int.reduceSub, Int.reduceMul, Nat.reducePow])
    | (refine AGood.doneF LL_ok [1000, 1001, 1002, 1003] [.tmp 6, .tmp 7] rfl ?_; simp only [sf_nil, sf_cons, go_sem, Nat.reduceAdd, Nat.reduceSub, Nat.reduceMul, Nat.reduceLT, Nat.reduceLeDiff, Nat.reduceEqDiff, Nat.reduceDiv, Nat.reduceBEq, Int.reduceNeg, reduceCtorEq, ↓reduceIte, Int.reduceEq, Int.reduceLT, Int.reduceLE, Int.reduceToNat, Int.reduceAdd, Int.reduceSub, Int.reduceMul, Nat.reducePow]))
        all_goals first | omega | (unfold bigLen; omega) | exact ⟨_, _, ⟨rfl, rfl⟩, rfl⟩ | exact ⟨_, rfl⟩ | (rename_i hy; simp only [List.mem_singleton] at hy; subst hy; rfl) | skip
        rename_i y hy
        have hy2 : y = [.int .i64 m] := by
          rw [List.getElem?_map, w2] at hy
          simpa using hy.symm
        subst hy2
        refine AGood.prune [0, 2, 4, 21, 22, 23] ?_; simp only [prune, List.map_cons, List.map_nil, lk_hit, lk_miss, lk_nil, ne_eq, Nat.reduceEqDiff, not_false_eq_true]
        exact (ih (i + 1, W.set i (atF A m)) ⟨by simp only; omega, w3⟩ (by simp only; omega)).cast rfl (by simp [ints, List.map_set])
      · have e4 : ¬ (i : Int) < xl.length := by omega
        have hin : i = xl.length := by omega
        subst hin
        simp only [List.take_length, List.drop_length, List.append_nil] at hW
        subst hW
        have e5 : (ints (xl.map (atF A))).take xl.length = ints (xl.map (atF A)) := List.take_of_length_le (by simp)
        repeat' (first
    | (refine AGood.at 9 ?_; (refine AGood.freeze 18 rfl ?_; simp only [rfT, rfS, rfO, rf, rf1, e5, true_and, go_sem, Nat.reduceAdd, Nat.reduceSub, Nat.reduceMul, Nat.reduceLT, Nat.reduceLeDiff, Nat.reduceEqDiff, Nat.reduceDiv, Nat.reduceBEq, Int.reduceNeg, reduceCtorEq, ↓reduceIte, Int.reduceEq, Int.reduceLT, Int.reduceLE, Int.reduceToNat, Int.reduceAdd, Int.reduceSub, Int.reduceMul, Nat.reducePow]); (refine AGood.at 9 ?_; refine AGood.drawn LL_ok mixed [43] 7 [0, 1, 2, 3, 4, 5, 6, 7, 8, 9, 10] [0, 1, 2, 4, 6, 7, 8, 9, 15, 21, 22, 23, 24] (by kernel_rfl) (by rfl) ?_; intro K hK; simp only [List.take_succ_cons, List.take_zero, List.drop_succ_cons, List.drop_zero, List.filterMap_cons_some, List.filterMap_nil, go_sem, Nat.reduceAdd, Nat.reduceSub, Nat.reduceMul, Nat.reduceLT, Nat.reduceLeDiff, Nat.reduceEqDiff, Nat.reduceDiv, Nat.reduceBEq, Int.reduceNeg, reduceCtorEq, ↓reduceIte, Int.reduceEq, Int.reduceLT, Int.reduceLE, Int.reduceToNat, Int.reduceAdd, Int.reduceSub, Int.reduceMul, Nat.reducePow, e1, e4]))
    | refine AGood.seq ?_
    | refine AGood.skip ?_
    | refine AGood.block ?_
    | refine AGood.inBlock ?_
    | refine AGood.exit rfl ?_
    | (refine AGood.reg LL_ok [43] [0, 1, 2, 4, 6, 7, 8, 9, 15, 21, 22, 23, 24] (by kernel_rfl) ?_; intro K hK; simp only [go_sem, Nat.reduceAdd, Nat.reduceSub, Nat.reduceMul, Nat.reduceLT, Nat.reduceLeDiff, Nat.reduceEqDiff, Nat.reduceDiv, Nat.reduceBEq, Int.reduceNeg, reduceCtorEq, ↓reduceIte, Int.reduceEq, Int.reduceLT, Int.reduceLE, Int.reduceToNat, Int.reduceAdd, Int.reduceSub, Int.reduceMul, Nat.reducePow, e1, e4])
    | (refine AGood.at 7 ?_; refine AGood.drawn LL_ok mixed [43] 8 [0, 1, 2, 3, 4, 5, 6, 7, 8] [0, 1, 2, 4, 6, 7, 8, 9, 15, 21, 22, 23, 24] (by kernel_rfl) (by rfl) ?_; intro K hK; simp only [List.take_succ_cons, List.take_zero, List.drop_succ_cons, List.drop_zero, List.filterMap_cons_some, List.filterMap_nil, go_sem, Nat.reduceAdd, Nat.reduceSub, Nat.reduceMul, Nat.reduceLT, Nat.reduceLeDiff, Nat.reduceEqDiff, Nat.reduceDiv, Nat.reduceBEq, Int.reduceNeg, reduceCtorEq, ↓reduceIte, Int.reduceEq, Int.reduceLT, Int.reduceLE, Int.reduceToNat, Int.reduceAdd, Int.reduceSub, Int.reduceMul, Nat.reducePow, e1, e4])
    | (refine hK _ _ ?_; clear hK K; simp only [prune, List.map_cons, List.map_nil, lk_hit, lk_miss, lk_nil, ne_eq, Nat.reduceEqDiff, not_false_eq_true])
    | (refine gd_split ?_ ?_ <;> intro hb <;> (try simp only [Bool.not_eq_true', Bool.not_eq_false', decide_eq_true_eq, decide_eq_false_iff_not, Bool.not_true, Bool.not_false, Bool.not_eq_true, Bool.not_eq_false] at hb) <;> simp only [go_sem, Nat.reduceAdd, Nat.reduceSub, Nat.reduceMul, Nat.reduceLT, Nat.reduceLeDiff, Nat.reduceEqDiff, Nat.reduceDiv, Nat.reduceBEq, Int.reduceNeg, reduceCtorEq, ↓reduceIte, Int.reduceEq, Int.reduceLT, Int.reduceLE, Int.reduceToNat, Int.reduceAdd, Int.reduceSub, Int.reduceMul, Nat.reducePow, e1, e4, hb])
    | (refine AGood.condT ?_ rfl ?_; focus (simp only [ev_tmp, ev_const, oc_bool, lk_hit, lk_miss, ne_eq, Nat.reduceEqDiff, not_false_eq_true]; done))
    | (refine AGood.condF ?_ rfl ?_; focus (simp only [ev_tmp, ev_const, oc_bool, lk_hit, lk_miss, ne_eq, Nat.reduceEqDiff, not_false_eq_true]; done))
    | (refine AGood.cond (by simp only [ev_tmp, ev_const, oc_bool, lk_hit, lk_miss, ne_eq, Nat.reduceEqDiff, not_false_eq_true]; rfl) rfl ?_ ?_ <;> intro hc <;> (try simp only [Bool.not_eq_true', Bool.not_eq_false', decide_eq_true_eq, decide_eq_false_iff_not, Bool.not_true, Bool.not_false, Bool.not_eq_true, Bool.not_eq_false] at hc) <;> (try simp only [hc, decide_true, decide_false, Bool.not_true, Bool.not_false]))
    | (intro _)
    | (refine And.intro ?_ ?_)
    | (refine AGood.retF LL_ok [1000, 1001, 1002, 1003] [.tmp 6, .tmp 7] rfl ?_; simp only [sf_nil, sf_cons, go_sem, Nat.reduceAdd, Nat.reduceSub, Nat.reduceMul, Nat.reduceLT, Nat.reduceLeDiff, Nat.reduceEqDiff, Nat.reduceDiv, Nat.reduceBEq, Int.reduceNeg, reduceCtorEq, ↓reduceIte, Int.reduceEq, Int.reduceLT, Int.reduceLE, Int.reduceToNat, Int.reduceAdd, Int.reduceSub, Int.reduceMul, Nat.reducePow])
    | (refine AGood.doneF LL_ok [1000, 1001, 1002, 1003] [.tmp 6, .tmp 7] rfl ?_; simp only [sf_nil, sf_cons, go_sem, Nat.reduceAdd, Nat.reduceSub, Nat.reduceMul, Nat.reduceLT, Nat.reduceLeDiff, Nat.reduceEqDiff, Nat.reduceDiv, Nat.reduceBEq, Int.reduceNeg, reduceCtorEq, ↓reduceIte, Int.reduceEq, Int.reduceLT, Int.reduceLE, Int.reduceToNat, Int.reduceAdd, Int.reduceSub, Int.reduceMul, Nat.reducePow]))
        all_goals first | omega | (unfold bigLen; omega) | exact ⟨_, _, ⟨rfl, rfl⟩, rfl⟩ | exact ⟨_, rfl⟩ | (rename_i hy; simp only [List.mem_singleton] at hy; subst hy; rfl) | skip
        · simp
        · rename_i h'; exact ⟨h', by simp⟩
end Go.Rad
