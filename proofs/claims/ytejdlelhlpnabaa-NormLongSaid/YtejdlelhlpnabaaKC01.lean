/- Contracts: sets, byte by byte. -/
import Derived.Test.YtejdlelhlpnabaaKRTab
import Derived.Test.YtejdlelhlpnabaaKRNode
set_option linter.all false
namespace Go.Rad
open Go Go.Proofs
set_option linter.unusedSimpArgs false
set_option maxRecDepth 20000
set_option maxHeartbeats 4000000
attribute [local go_sem] vc_nil vc_move vc_assign vc_pick vc_alloc vc_box vc_build vc_buildSlice vc_load vc_store vc_nilCheck vc_bin_tmp vc_bin_int vc_bin_bool vc_bin_str vc_bin_agg vc_eqNil vc_neNil vc_unOp vc_convert vc_makeFunc vc_makeMap vc_makeSlice vc_slice vc_fieldAddr vc_field vc_indexAddr vc_index vc_lookup vc_mapUpdate vc_extract vc_builtin vc_call vc_guard gd_tt gd_ff gd_tf gd_ft gd_none pk_t pk_f nc_bx nc_loc nc_ref nc_fn cl_fn cl_fq kv_ap kvs_ap kvs_nil kvc_ap frq_ff frq_osl frO_row frq_sl frq_int frq_tup ks_ap kb_ap kb_ap' put_some put_none ev_tmp ev_const ev_func oc_int oc_bool oc_str oc_nil oc_sl oc_map oc_fn oc_agg oc1uint oc1ubool oc1ustr oc1unil oc1usl lk_hit lk_miss sget_hit sget_miss sget_nil sput_nil sput_hit sput_lt sput_gt vcRes_nil vcRes_tmp vcRes_cell retv_one retv_nil retv_more sdel_nil sdel_hit sdel_miss ld_bx ld_loc ld_ref ldB_box ldR_map mkv_ag mkv_one st_bx st_loc sn_bx sn_loc nr_sl nr_int nr_bool nr_str nr_ref nr_nil nr_nilfn nr_nilmap nr_fn nv_agg nv_sl nv_int nv_bool nv_str nv_ref nv_nil nv_fn stB_box stR_row fd_eq fdA_bx fdA_loc fdA_ref foff_st fo_eq foA_agg ix_eq ixA_osl ixO_row ixA_map ixA_abx ixA_aloc ixA_aref iv_eq ivA_str ivA_agg ex_tup ln_eq lnA_str lnA_sl lnA_osl lnA_arr bl_len bl_append bl_max bl_min el_sl el_osl elO_all elO_one elO_row ap_eq apA_sl apE_osl apO_row apE_nil mk_eq mkA_sl bs_eq bsA_sl bsC_some fc_nil fc_st fc_arr fc_sl fcA_some bb_eql bb_neq ba_eql ba_neq eqA_arr eqI_int eqN_some io_nil io_cons io_map ar_i64 ar_u8 ar_u16 ar_u32 ar_u64 ar_i32 un_not un_neg un_xor sl_eq slA_str slA_sl slA_osl ia_none ia_some sf_none sf_some cv_eq cvA_int cvA_str lu_eq luA_map luO_mp lv_some lv_none mu_eq muA_map muO_mp vn_sl vn_osl co_agg co_nil co_nilmap co_nilfn iw_agg iw_nil iw_nilmap iw_nilfn fz_nil fz_fn fz_osl ch_zero ch_succ ch_one sp_eq bi_add bi_sub bi_mul bi_quo bi_rem bi_and bi_or bi_xor bi_andNot bi_eql bi_neq bi_lss bi_leq bi_gtr bi_geq ii_add ii_sub ii_mul ii_quo ii_rem ii_and ii_or ii_xor ii_andNot ii_eql ii_neq ii_lss ii_leq ii_gtr ii_geq bi_shl bi_shr sh_shl sh_shr ss_add ss_eql ss_neq ss_lss ss_gtr ss_leq ss_geq co_bool iw_bool fz_bool co_int iw_int fz_int co_str iw_str fz_str co_sl iw_sl fz_sl co_ref iw_ref fz_ref co_osl iw_osl co_bx iw_bx co_loc iw_loc co_map iw_map co_fn iw_fn List.length_map List.map_cons List.map_nil List.append_nil List.nil_append List.cons_append List.length_cons List.length_nil List.getElem?_cons_zero List.getElem?_cons_succ List.getElem?_nil Option.map_some Option.map_none Option.some.injEq List.take_succ_cons List.take_zero List.drop_succ_cons List.drop_zero List.headD_cons List.all_cons List.all_nil List.replicate List.flatten_cons List.flatten_nil List.toList_toArray Array.toList_empty Nat.zero_add Nat.add_zero Nat.succ_eq_add_one Nat.le_refl List.contains_nil List.contains_cons Bool.or_false Bool.or_true Bool.false_or Bool.true_or Option.getD_some Option.getD_none ne_eq not_false_eq_true not_true_eq_false and_true true_and and_self Bool.and_true Bool.true_and Bool.not_false Bool.not_true Bool.false_eq_true Bool.and_self if_true if_false ite_true ite_false exists_eq_left exists_eq_left' exists_and_left exists_eq forall_eq forall_eq' forall_const imp_self implies_true Option.isSome_none Option.isSome_some Option.isNone_none Prod.mk.injEq Ty.slice.injEq Ty.map.injEq Ty.array.injEq false_implies true_implies decide_true decide_false Int.toNat_natCast Int.toNat_zero Int.natCast_nonneg Int.cast_ofNat_Int Int.natCast_zero Int.natCast_one Nat.not_lt_zero Nat.zero_le Nat.zero_lt_succ Nat.zero_mul LL_1 LL_2 LL_3 LL_4 LL_5 LL_6 LL_7 LL_8 LL_9 LL_10 LL_11 LL_12 LL_13 LL_14 LL_15 LL_16 LL_17 LL_18 LL_19 LL_21 LL_22 LL_23 LL_24 LL_25 LL_27 LL_28 LL_29 LL_30 LL_31 LL_32 LL_33 LL_34 LL_35 LL_36 LL_37 LL_38 LL_39 LL_40 LL_41 LL_42 LL_43 LL_44 LL_45 LL_46 LL_47 LL_48 LL_49 LL_50 LL_51 LL_52 LL_53 LL_54 LL_56 LL_57 LL_58 LL_59 LL_60 LL_61 LL_63 LL_64 LL_65 LL_66 LL_67 LL_68 LL_69 LL_70 LL_71 LL_72 LL_73 LL_74 LL_75 LL_76 LL_77 LL_78 LL_79 LL_80 LL_81 LL_82 LL_83 LL_84 LL_85 LL_87 LL_88 LL_90 LL_91 LL_92 LL_93 LL_94 LL_95 LL_97 LL_98 LL_99 LL_100 LL_101 LL_102 LL_103 LL_104 LL_105 LL_106 LL_108 LL_109 LL_110 LL_111 LL_112 LL_113 LL_114 LL_115 LL_116 LL_117 LL_118 LL_119 LL_120 LL_121 LL_122 LL_123 LL_124 LL_125 LL_126 LL_127 LL_128 LL_131 LL_132 LL_133 LL_134 LL_135 LL_136 LL_137 LL_138 LL_139

def hasI (s : ISet) (n : Nat) : Bool := decide (((s.word (n / 64)).fdiv (2 ^ (n % 64))).tmod 2 = 1)
theorem div64 {n k : Nat} {c : Int} {X : Prop} (h4 : n / 64 = k) (hk : (k : Int) = c) (h : (n : Int).tdiv 64 = c → (n : Int).tmod 64 = ((n % 64 : Nat) : Int) → min (n % 64) 64 = n % 64 → X) : X :=
  h ((tdiv_nat n 64).trans (by rw [h4]; exact hk)) (tmod_nat n 64) (by omega)
theorem has_c (s0 s1 s2 s3 : Int) (n : Nat) (h1 : n ≤ 255) : ACall Try.prog 72 [.agg [.int .u64 s0, .int .u64 s1, .int .u64 s2, .int .u64 s3], .int .u8 n] [] fun r s' => r = .bool (hasI ⟨s0, s1, s2, s3⟩ n) ∧ s' = [] := by
  have h4 : n / 64 = 0 ∨ n / 64 = 1 ∨ n / 64 = 2 ∨ n / 64 = 3 := by omega
  rcases h4 with h4 | h4 | h4 | h4
  all_goals
    (first | refine div64 (c := 0) h4 rfl fun hd hm hmin => ?_ | refine div64 (c := 1) h4 rfl fun hd hm hmin => ?_ | refine div64 (c := 2) h4 rfl fun hd hm hmin => ?_ | refine div64 (c := 3) h4 rfl fun hd hm hmin => ?_)
    simp only [hasI, h4, ISet.word]
    refine ACall.enter Try.func72 rfl (by kernel_rfl) (Nat.le_of_ble_eq_true rfl) ?_; simp only [initTm, Nat.reduceAdd]
    repeat' (first
    | refine AGood.seq ?_
    | refine AGood.skip ?_
    | refine AGood.block ?_
    | refine AGood.inBlock ?_
    | refine AGood.exit rfl ?_
    | (refine AGood.reg LL_ok [] [0, 1, 2, 4] (by kernel_rfl) ?_; intro K hK; simp only [go_sem, Nat.reduceAdd, Nat.reduceSub, Nat.reduceMul, Nat.reduceLT, Nat.reduceLeDiff, Nat.reduceEqDiff, Nat.reduceDiv, Nat.reduceBEq, Int.reduceNeg, reduceCtorEq, ↓reduceIte, Int.reduceEq, Int.reduceLT, Int.reduceLE, Int.reduceToNat, Int.reduceAdd, Int.reduceSub, Int.reduceMul, Nat.reducePow, hd, hm, hmin, wr_u8, IntKind.bits, Int.toNat_natCast, Int.natCast_nonneg])
    | (refine hK _ _ ?_; clear hK K; simp only [prune, List.map_cons, List.map_nil, lk_hit, lk_miss, lk_nil, ne_eq, Nat.reduceEqDiff, not_false_eq_true])
    | (refine gd_split ?_ ?_ <;> intro hb <;> (try simp only [Bool.not_eq_true', Bool.not_eq_false', decide_eq_true_eq, decide_eq_false_iff_not, Bool.not_true, Bool.not_false, Bool.not_eq_true, Bool.not_eq_false] at hb) <;> simp only [go_sem, Nat.reduceAdd, Nat.reduceSub, Nat.reduceMul, Nat.reduceLT, Nat.reduceLeDiff, Nat.reduceEqDiff, Nat.reduceDiv, Nat.reduceBEq, Int.reduceNeg, reduceCtorEq, ↓reduceIte, Int.reduceEq, Int.reduceLT, Int.reduceLE, Int.reduceToNat, Int.reduceAdd, Int.reduceSub, Int.reduceMul, Nat.reducePow, hd, hm, hmin, wr_u8, IntKind.bits, Int.toNat_natCast, Int.natCast_nonneg, hb])
    | (refine AGood.condT ?_ rfl ?_; focus (simp only [ev_tmp, ev_const, oc_bool, lk_hit, lk_miss, ne_eq, Nat.reduceEqDiff, not_false_eq_true]; done))
    | (refine AGood.condF ?_ rfl ?_; focus (simp only [ev_tmp, ev_const, oc_bool, lk_hit, lk_miss, ne_eq, Nat.reduceEqDiff, not_false_eq_true]; done))
    | (refine AGood.cond (by simp only [ev_tmp, ev_const, oc_bool, lk_hit, lk_miss, ne_eq, Nat.reduceEqDiff, not_false_eq_true]; rfl) rfl ?_ ?_ <;> intro hc <;> (try simp only [Bool.not_eq_true', Bool.not_eq_false', decide_eq_true_eq, decide_eq_false_iff_not, Bool.not_true, Bool.not_false, Bool.not_eq_true, Bool.not_eq_false] at hc) <;> (try simp only [hc, decide_true, decide_false, Bool.not_true, Bool.not_false]))
    | (intro _)
    | (refine And.intro ?_ ?_)
    | (refine AGood.retF LL_ok [] [.tmp 4] rfl ?_; simp only [sf_nil, sf_cons, go_sem, Nat.reduceAdd, Nat.reduceSub, Nat.reduceMul, Nat.reduceLT, Nat.reduceLeDiff, Nat.reduceEqDiff, Nat.reduceDiv, Nat.reduceBEq, Int.reduceNeg, reduceCtorEq, ↓reduceIte, Int.reduceEq, Int.reduceLT, Int.reduceLE, Int.reduceToNat, Int.reduceAdd, Int.reduceSub, Int.reduceMul, Nat.reducePow])
    | (refine AGood.doneF LL_ok [] [.tmp 4] rfl ?_; simp only [sf_nil, sf_cons, go_sem, Nat.reduceAdd, Nat.reduceSub, Nat.reduceMul, Nat.reduceLT, Nat.reduceLeDiff, Nat.reduceEqDiff, Nat.reduceDiv, Nat.reduceBEq, Int.reduceNeg, reduceCtorEq, ↓reduceIte, Int.reduceEq, Int.reduceLT, Int.reduceLE, Int.reduceToNat, Int.reduceAdd, Int.reduceSub, Int.reduceMul, Nat.reducePow]))
  all_goals exact ⟨rfl, rfl⟩

def withI (s : ISet) (n : Nat) : ISet := if hasI s n then s else s.set (n / 64) (IntKind.u64.wrap (s.word (n / 64) + IntKind.u64.wrap (1 * 2 ^ (n % 64))))
theorem with_c (s0 s1 s2 s3 : Int) (n : Nat) (h1 : n ≤ 255) : ACall Try.prog 99 [.agg [.int .u64 s0, .int .u64 s1, .int .u64 s2, .int .u64 s3], .int .u8 n] [] fun r s' => r = .agg (withI ⟨s0, s1, s2, s3⟩ n).cells ∧ s' = [] := by
  have h4 : n / 64 = 0 ∨ n / 64 = 1 ∨ n / 64 = 2 ∨ n / 64 = 3 := by omega
  rcases h4 with h4 | h4 | h4 | h4
  all_goals
    (first | refine div64 (c := 0) h4 rfl fun hd hm hmin => ?_ | refine div64 (c := 1) h4 rfl fun hd hm hmin => ?_ | refine div64 (c := 2) h4 rfl fun hd hm hmin => ?_ | refine div64 (c := 3) h4 rfl fun hd hm hmin => ?_)
    simp only [withI, h4, ISet.word]
    refine ACall.enter Try.func99 rfl (by kernel_rfl) (Nat.le_of_ble_eq_true rfl) ?_; simp only [initTm, Nat.reduceAdd]
    repeat' (first
    | refine AGood.seq ?_
    | refine AGood.skip ?_
    | refine AGood.block ?_
    | refine AGood.inBlock ?_
    | refine AGood.exit rfl ?_
    | (refine AGood.reg LL_ok [] [0, 1, 2, 4, 8] (by kernel_rfl) ?_; intro K hK; simp only [go_sem, Nat.reduceAdd, Nat.reduceSub, Nat.reduceMul, Nat.reduceLT, Nat.reduceLeDiff, Nat.reduceEqDiff, Nat.reduceDiv, Nat.reduceBEq, Int.reduceNeg, reduceCtorEq, ↓reduceIte, Int.reduceEq, Int.reduceLT, Int.reduceLE, Int.reduceToNat, Int.reduceAdd, Int.reduceSub, Int.reduceMul, Nat.reducePow, hd, hm, hmin, wr_u8, IntKind.bits, Int.toNat_natCast, Int.natCast_nonneg])
    | (refine ACall.mono (ACall.alone (has_c _ _ _ _ _ h1) rfl rfl rfl) ?_; rintro _ _ ⟨rfl, rfl⟩; simp only [go_sem, Nat.reduceAdd, Nat.reduceSub, Nat.reduceMul, Nat.reduceLT, Nat.reduceLeDiff, Nat.reduceEqDiff, Nat.reduceDiv, Nat.reduceBEq, Int.reduceNeg, reduceCtorEq, ↓reduceIte, Int.reduceEq, Int.reduceLT, Int.reduceLE, Int.reduceToNat, Int.reduceAdd, Int.reduceSub, Int.reduceMul, Nat.reducePow, hd, hm, hmin, wr_u8, IntKind.bits, Int.toNat_natCast, Int.natCast_nonneg])
    | (refine hK _ _ ?_; clear hK K; simp only [prune, List.map_cons, List.map_nil, lk_hit, lk_miss, lk_nil, ne_eq, Nat.reduceEqDiff, not_false_eq_true])
    | (refine gd_split ?_ ?_ <;> intro hb <;> (try simp only [Bool.not_eq_true', Bool.not_eq_false', decide_eq_true_eq, decide_eq_false_iff_not, Bool.not_true, Bool.not_false, Bool.not_eq_true, Bool.not_eq_false] at hb) <;> simp only [go_sem, Nat.reduceAdd, Nat.reduceSub, Nat.reduceMul, Nat.reduceLT, Nat.reduceLeDiff, Nat.reduceEqDiff, Nat.reduceDiv, Nat.reduceBEq, Int.reduceNeg, reduceCtorEq, ↓reduceIte, Int.reduceEq, Int.reduceLT, Int.reduceLE, Int.reduceToNat, Int.reduceAdd, Int.reduceSub, Int.reduceMul, Nat.reducePow, hd, hm, hmin, wr_u8, IntKind.bits, Int.toNat_natCast, Int.natCast_nonneg, hb])
    | (refine AGood.condT ?_ rfl ?_; focus (simp only [ev_tmp, ev_const, oc_bool, lk_hit, lk_miss, ne_eq, Nat.reduceEqDiff, not_false_eq_true]; done))
    | (refine AGood.condF ?_ rfl ?_; focus (simp only [ev_tmp, ev_const, oc_bool, lk_hit, lk_miss, ne_eq, Nat.reduceEqDiff, not_false_eq_true]; done))
    | (refine AGood.cond (by simp only [ev_tmp, ev_const, oc_bool, lk_hit, lk_miss, ne_eq, Nat.reduceEqDiff, not_false_eq_true]; rfl) rfl ?_ ?_ <;> intro hc <;> (try simp only [Bool.not_eq_true', Bool.not_eq_false', decide_eq_true_eq, decide_eq_false_iff_not, Bool.not_true, Bool.not_false, Bool.not_eq_true, Bool.not_eq_false] at hc) <;> (try simp only [hc, decide_true, decide_false, Bool.not_true, Bool.not_false]))
    | (intro _)
    | (refine And.intro ?_ ?_)
    | (refine AGood.retF LL_ok [] [.cell 4 35] rfl ?_; simp only [sf_nil, sf_cons, go_sem, Nat.reduceAdd, Nat.reduceSub, Nat.reduceMul, Nat.reduceLT, Nat.reduceLeDiff, Nat.reduceEqDiff, Nat.reduceDiv, Nat.reduceBEq, Int.reduceNeg, reduceCtorEq, ↓reduceIte, Int.reduceEq, Int.reduceLT, Int.reduceLE, Int.reduceToNat, Int.reduceAdd, Int.reduceSub, Int.reduceMul, Nat.reducePow])
    | (refine AGood.doneF LL_ok [] [.cell 4 35] rfl ?_; simp only [sf_nil, sf_cons, go_sem, Nat.reduceAdd, Nat.reduceSub, Nat.reduceMul, Nat.reduceLT, Nat.reduceLeDiff, Nat.reduceEqDiff, Nat.reduceDiv, Nat.reduceBEq, Int.reduceNeg, reduceCtorEq, ↓reduceIte, Int.reduceEq, Int.reduceLT, Int.reduceLE, Int.reduceToNat, Int.reduceAdd, Int.reduceSub, Int.reduceMul, Nat.reducePow]))
  all_goals first | (simp only [hc]; rfl) | (simp [hc]; done) | (simp [hc, ISet.set]; done)

abbrev bytesL (l : List Nat) : List (List AVal) := l.map fun (k : Nat) => [.int .u8 k]
theorem of_c (q f : Bool) (l : List Nat) (h : ∀ x ∈ l, x ≤ 255) (hl : l.length ≤ 1000000) : ACall Try.prog 89 [.sl q f (bytesL l)] [] fun r s' => r = .agg (l.foldl withI ISet.none).cells ∧ s' = [] := by
  refine ACall.enter Try.func89 rfl (by kernel_rfl) (Nat.le_of_ble_eq_true rfl) ?_; simp only [initTm, Nat.reduceAdd]
  repeat' (first
    | refine AGood.seq ?_
    | refine AGood.skip ?_
    | refine AGood.block ?_
    | refine AGood.inBlock ?_
    | refine AGood.exit rfl ?_
    | (refine AGood.reg LL_ok [] [0, 2, 3, 4, 9] (by kernel_rfl) ?_; intro K hK; simp only [go_sem, Nat.reduceAdd, Nat.reduceSub, Nat.reduceMul, Nat.reduceLT, Nat.reduceLeDiff, Nat.reduceEqDiff, Nat.reduceDiv, Nat.reduceBEq, Int.reduceNeg, reduceCtorEq, ↓reduceIte, Int.reduceEq, Int.reduceLT, Int.reduceLE, Int.reduceToNat, Int.reduceAdd, Int.reduceSub, Int.reduceMul, Nat.reducePow])
    | (refine AGood.drawn LL_ok mixed [] 5 [0, 1, 2, 3, 4, 5, 6] [0, 2, 3, 4, 9] (by kernel_rfl) (by rfl) ?_; intro K hK; simp only [List.take_succ_cons, List.take_zero, List.drop_succ_cons, List.drop_zero, List.filterMap_cons_some, List.filterMap_nil, go_sem, Nat.reduceAdd, Nat.reduceSub, Nat.reduceMul, Nat.reduceLT, Nat.reduceLeDiff, Nat.reduceEqDiff, Nat.reduceDiv, Nat.reduceBEq, Int.reduceNeg, reduceCtorEq, ↓reduceIte, Int.reduceEq, Int.reduceLT, Int.reduceLE, Int.reduceToNat, Int.reduceAdd, Int.reduceSub, Int.reduceMul, Nat.reducePow])
    | (refine hK _ _ ?_; clear hK K; simp only [prune, List.map_cons, List.map_nil, lk_hit, lk_miss, lk_nil, ne_eq, Nat.reduceEqDiff, not_false_eq_true])
    | (refine gd_split ?_ ?_ <;> intro hb <;> (try simp only [Bool.not_eq_true', Bool.not_eq_false', decide_eq_true_eq, decide_eq_false_iff_not, Bool.not_true, Bool.not_false, Bool.not_eq_true, Bool.not_eq_false] at hb) <;> simp only [go_sem, Nat.reduceAdd, Nat.reduceSub, Nat.reduceMul, Nat.reduceLT, Nat.reduceLeDiff, Nat.reduceEqDiff, Nat.reduceDiv, Nat.reduceBEq, Int.reduceNeg, reduceCtorEq, ↓reduceIte, Int.reduceEq, Int.reduceLT, Int.reduceLE, Int.reduceToNat, Int.reduceAdd, Int.reduceSub, Int.reduceMul, Nat.reducePow, hb])
    | (refine AGood.condT ?_ rfl ?_; focus (simp only [ev_tmp, ev_const, oc_bool, lk_hit, lk_miss, ne_eq, Nat.reduceEqDiff, not_false_eq_true]; done))
    | (refine AGood.condF ?_ rfl ?_; focus (simp only [ev_tmp, ev_const, oc_bool, lk_hit, lk_miss, ne_eq, Nat.reduceEqDiff, not_false_eq_true]; done))
    | (refine AGood.cond (by simp only [ev_tmp, ev_const, oc_bool, lk_hit, lk_miss, ne_eq, Nat.reduceEqDiff, not_false_eq_true]; rfl) rfl ?_ ?_ <;> intro hc <;> (try simp only [Bool.not_eq_true', Bool.not_eq_false', decide_eq_true_eq, decide_eq_false_iff_not, Bool.not_true, Bool.not_false, Bool.not_eq_true, Bool.not_eq_false] at hc) <;> (try simp only [hc, decide_true, decide_false, Bool.not_true, Bool.not_false]))
    | (intro _)
    | (refine And.intro ?_ ?_)
    | (refine AGood.retF LL_ok [] [.cell 2 35] rfl ?_; simp only [sf_nil, sf_cons, go_sem, Nat.reduceAdd, Nat.reduceSub, Nat.reduceMul, Nat.reduceLT, Nat.reduceLeDiff, Nat.reduceEqDiff, Nat.reduceDiv, Nat.reduceBEq, Int.reduceNeg, reduceCtorEq, ↓reduceIte, Int.reduceEq, Int.reduceLT, Int.reduceLE, Int.reduceToNat, Int.reduceAdd, Int.reduceSub, Int.reduceMul, Nat.reducePow])
    | (refine AGood.doneF LL_ok [] [.cell 2 35] rfl ?_; simp only [sf_nil, sf_cons, go_sem, Nat.reduceAdd, Nat.reduceSub, Nat.reduceMul, Nat.reduceLT, Nat.reduceLeDiff, Nat.reduceEqDiff, Nat.reduceDiv, Nat.reduceBEq, Int.reduceNeg, reduceCtorEq, ↓reduceIte, Int.reduceEq, Int.reduceLT, Int.reduceLE, Int.reduceToNat, Int.reduceAdd, Int.reduceSub, Int.reduceMul, Nat.reducePow]))
  rename_i h2 h3
  refine AGood.prune [0, 2, 3, 4] ?_; simp only [prune, List.map_cons, List.map_nil, lk_hit, lk_miss, lk_nil, ne_eq, Nat.reduceEqDiff, not_false_eq_true]
  refine AGood.loopInv (α := Nat) (fun i => ([(0, .sl q f (bytesL l)), (2, .bx 2 h2 0), (3, .bx 3 h3 0), (4, .int .i64 i)], [(2, h2, .box ISet.none.cells), (3, h3, .box ((l.take i).foldl withI ISet.none).cells)])) (fun i => i ≤ l.length) (fun i => l.length - i) 0 (Nat.zero_le _) rfl ?_
  intro i hi ih
  simp only
  generalize hs : (l.take i).foldl withI ISet.none = s
  obtain ⟨s0, s1, s2, s3⟩ := s
  repeat' (first
    | refine AGood.seq ?_
    | refine AGood.skip ?_
    | refine AGood.block ?_
    | refine AGood.inBlock ?_
    | refine AGood.exit rfl ?_
    | (refine AGood.reg LL_ok [] [0, 2, 3, 4, 9] (by kernel_rfl) ?_; intro K hK; simp only [go_sem, Nat.reduceAdd, Nat.reduceSub, Nat.reduceMul, Nat.reduceLT, Nat.reduceLeDiff, Nat.reduceEqDiff, Nat.reduceDiv, Nat.reduceBEq, Int.reduceNeg, reduceCtorEq, ↓reduceIte, Int.reduceEq, Int.reduceLT, Int.reduceLE, Int.reduceToNat, Int.reduceAdd, Int.reduceSub, Int.reduceMul, Nat.reducePow])
    | (refine AGood.drawn LL_ok mixed [] 5 [0, 1, 2, 3, 4, 5, 6] [0, 2, 3, 4, 9] (by kernel_rfl) (by rfl) ?_; intro K hK; simp only [List.take_succ_cons, List.take_zero, List.drop_succ_cons, List.drop_zero, List.filterMap_cons_some, List.filterMap_nil, go_sem, Nat.reduceAdd, Nat.reduceSub, Nat.reduceMul, Nat.reduceLT, Nat.reduceLeDiff, Nat.reduceEqDiff, Nat.reduceDiv, Nat.reduceBEq, Int.reduceNeg, reduceCtorEq, ↓reduceIte, Int.reduceEq, Int.reduceLT, Int.reduceLE, Int.reduceToNat, Int.reduceAdd, Int.reduceSub, Int.reduceMul, Nat.reducePow])
    | (refine ACall.mono (ACall.alone (with_c _ _ _ _ _ (h _ (List.mem_of_getElem? (by assumption)))) rfl rfl rfl) ?_; rintro _ _ ⟨rfl, rfl⟩; simp only [go_sem, Nat.reduceAdd, Nat.reduceSub, Nat.reduceMul, Nat.reduceLT, Nat.reduceLeDiff, Nat.reduceEqDiff, Nat.reduceDiv, Nat.reduceBEq, Int.reduceNeg, reduceCtorEq, ↓reduceIte, Int.reduceEq, Int.reduceLT, Int.reduceLE, Int.reduceToNat, Int.reduceAdd, Int.reduceSub, Int.reduceMul, Nat.reducePow])
    | (refine hK _ _ ?_; clear hK K; simp only [prune, List.map_cons, List.map_nil, lk_hit, lk_miss, lk_nil, ne_eq, Nat.reduceEqDiff, not_false_eq_true])
    | (refine gd_split ?_ ?_ <;> intro hb <;> (try simp only [Bool.not_eq_true', Bool.not_eq_false', decide_eq_true_eq, decide_eq_false_iff_not, Bool.not_true, Bool.not_false, Bool.not_eq_true, Bool.not_eq_false] at hb) <;> simp only [go_sem, Nat.reduceAdd, Nat.reduceSub, Nat.reduceMul, Nat.reduceLT, Nat.reduceLeDiff, Nat.reduceEqDiff, Nat.reduceDiv, Nat.reduceBEq, Int.reduceNeg, reduceCtorEq, ↓reduceIte, Int.reduceEq, Int.reduceLT, Int.reduceLE, Int.reduceToNat, Int.reduceAdd, Int.reduceSub, Int.reduceMul, Nat.reducePow, hb])
    | (refine AGood.condT ?_ rfl ?_; focus (simp only [ev_tmp, ev_const, oc_bool, lk_hit, lk_miss, ne_eq, Nat.reduceEqDiff, not_false_eq_true]; done))
    | (refine AGood.condF ?_ rfl ?_; focus (simp only [ev_tmp, ev_const, oc_bool, lk_hit, lk_miss, ne_eq, Nat.reduceEqDiff, not_false_eq_true]; done))
    | (refine AGood.cond (by simp only [ev_tmp, ev_const, oc_bool, lk_hit, lk_miss, ne_eq, Nat.reduceEqDiff, not_false_eq_true]; rfl) rfl ?_ ?_ <;> intro hc <;> (try simp only [Bool.not_eq_true', Bool.not_eq_false', decide_eq_true_eq, decide_eq_false_iff_not, Bool.not_true, Bool.not_false, Bool.not_eq_true, Bool.not_eq_false] at hc) <;> (try simp only [hc, decide_true, decide_false, Bool.not_true, Bool.not_false]))
    | (intro _)
    | (refine And.intro ?_ ?_)
    | (refine AGood.retF LL_ok [] [.cell 2 35] rfl ?_; simp only [sf_nil, sf_cons, go_sem, Nat.reduceAdd, Nat.reduceSub, Nat.reduceMul, Nat.reduceLT, Nat.reduceLeDiff, Nat.reduceEqDiff, Nat.reduceDiv, Nat.reduceBEq, Int.reduceNeg, reduceCtorEq, ↓reduceIte, Int.reduceEq, Int.reduceLT, Int.reduceLE, Int.reduceToNat, Int.reduceAdd, Int.reduceSub, Int.reduceMul, Nat.reducePow])
    | (refine AGood.doneF LL_ok [] [.cell 2 35] rfl ?_; simp only [sf_nil, sf_cons, go_sem, Nat.reduceAdd, Nat.reduceSub, Nat.reduceMul, Nat.reduceLT, Nat.reduceLeDiff, Nat.reduceEqDiff, Nat.reduceDiv, Nat.reduceBEq, Int.reduceNeg, reduceCtorEq, ↓reduceIte, Int.reduceEq, Int.reduceLT, Int.reduceLE, Int.reduceToNat, Int.reduceAdd, Int.reduceSub, Int.reduceMul, Nat.reducePow]))
  all_goals try simp only [decide_eq_true_eq, decide_eq_false_iff_not] at hc
  · exact hc
  · omega
  · omega
  · rename_i k hk
    refine AGood.prune [0, 2, 3, 4] ?_; simp only [prune, List.map_cons, List.map_nil, lk_hit, lk_miss, lk_nil, ne_eq, Nat.reduceEqDiff, not_false_eq_true]
    exact (ih (i + 1) (by omega) (by omega)).cast rfl (by rw [take_one hk, List.foldl_append, hs]; rfl)
  · rw [List.take_of_length_le (by omega)] at hs
    rw [hs]

/-- The bytes from one to another. -/
def rangeI (lo hi : Nat) : ISet := (List.range (hi + 1 - lo)).foldl (fun s i => withI s (lo + i)) ISet.none
theorem range_c (lo hi : Nat) (h : hi ≤ 255) (h' : lo ≤ 255) : ACall Try.prog 101 [.int .u8 lo, .int .u8 hi] [] fun r s' => r = .agg (rangeI lo hi).cells ∧ s' = [] := by
  have e1 := wr_i64n (n := lo) (by omega)
  have e2 := wr_i64n (n := hi) (by omega)
  refine ACall.enter Try.func101 rfl (by kernel_rfl) (Nat.le_of_ble_eq_true rfl) ?_; simp only [initTm, Nat.reduceAdd]
  repeat' (first
    | refine AGood.seq ?_
    | refine AGood.skip ?_
    | refine AGood.block ?_
    | refine AGood.inBlock ?_
    | refine AGood.exit rfl ?_
    | (refine AGood.reg LL_ok [] [0, 1, 4, 5, 6, 13] (by kernel_rfl) ?_; intro K hK; simp only [go_sem, Nat.reduceAdd, Nat.reduceSub, Nat.reduceMul, Nat.reduceLT, Nat.reduceLeDiff, Nat.reduceEqDiff, Nat.reduceDiv, Nat.reduceBEq, Int.reduceNeg, reduceCtorEq, ↓reduceIte, Int.reduceEq, Int.reduceLT, Int.reduceLE, Int.reduceToNat, Int.reduceAdd, Int.reduceSub, Int.reduceMul, Nat.reducePow, e1, e2])
    | (refine hK _ _ ?_; clear hK K; simp only [prune, List.map_cons, List.map_nil, lk_hit, lk_miss, lk_nil, ne_eq, Nat.reduceEqDiff, not_false_eq_true])
    | (refine gd_split ?_ ?_ <;> intro hb <;> (try simp only [Bool.not_eq_true', Bool.not_eq_false', decide_eq_true_eq, decide_eq_false_iff_not, Bool.not_true, Bool.not_false, Bool.not_eq_true, Bool.not_eq_false] at hb) <;> simp only [go_sem, Nat.reduceAdd, Nat.reduceSub, Nat.reduceMul, Nat.reduceLT, Nat.reduceLeDiff, Nat.reduceEqDiff, Nat.reduceDiv, Nat.reduceBEq, Int.reduceNeg, reduceCtorEq, ↓reduceIte, Int.reduceEq, Int.reduceLT, Int.reduceLE, Int.reduceToNat, Int.reduceAdd, Int.reduceSub, Int.reduceMul, Nat.reducePow, e1, e2, hb])
    | (refine AGood.condT ?_ rfl ?_; focus (simp only [ev_tmp, ev_const, oc_bool, lk_hit, lk_miss, ne_eq, Nat.reduceEqDiff, not_false_eq_true]; done))
    | (refine AGood.condF ?_ rfl ?_; focus (simp only [ev_tmp, ev_const, oc_bool, lk_hit, lk_miss, ne_eq, Nat.reduceEqDiff, not_false_eq_true]; done))
    | (refine AGood.cond (by simp only [ev_tmp, ev_const, oc_bool, lk_hit, lk_miss, ne_eq, Nat.reduceEqDiff, not_false_eq_true]; rfl) rfl ?_ ?_ <;> intro hc <;> (try simp only [Bool.not_eq_true', Bool.not_eq_false', decide_eq_true_eq, decide_eq_false_iff_not, Bool.not_true, Bool.not_false, Bool.not_eq_true, Bool.not_eq_false] at hc) <;> (try simp only [hc, decide_true, decide_false, Bool.not_true, Bool.not_false]))
    | (intro _)
    | (refine And.intro ?_ ?_)
    | (refine AGood.retF LL_ok [] [.cell 4 35] rfl ?_; simp only [sf_nil, sf_cons, go_sem, Nat.reduceAdd, Nat.reduceSub, Nat.reduceMul, Nat.reduceLT, Nat.reduceLeDiff, Nat.reduceEqDiff, Nat.reduceDiv, Nat.reduceBEq, Int.reduceNeg, reduceCtorEq, ↓reduceIte, Int.reduceEq, Int.reduceLT, Int.reduceLE, Int.reduceToNat, Int.reduceAdd, Int.reduceSub, Int.reduceMul, Nat.reducePow])
    | (refine AGood.doneF LL_ok [] [.cell 4 35] rfl ?_; simp only [sf_nil, sf_cons, go_sem, Nat.reduceAdd, Nat.reduceSub, Nat.reduceMul, Nat.reduceLT, Nat.reduceLeDiff, Nat.reduceEqDiff, Nat.reduceDiv, Nat.reduceBEq, Int.reduceNeg, reduceCtorEq, ↓reduceIte, Int.reduceEq, Int.reduceLT, Int.reduceLE, Int.reduceToNat, Int.reduceAdd, Int.reduceSub, Int.reduceMul, Nat.reducePow]))
  rename_i h4 h5
  refine AGood.prune [0, 1, 4, 5, 6] ?_; simp only [prune, List.map_cons, List.map_nil, lk_hit, lk_miss, lk_nil, ne_eq, Nat.reduceEqDiff, not_false_eq_true]
  refine AGood.loopInv (α := Nat) (fun i => ([(0, .int .u8 lo), (1, .int .u8 hi), (4, .bx 4 h4 0), (5, .bx 5 h5 0), (6, .int .i64 (lo + i : Nat))], [(4, h4, .box ISet.none.cells), (5, h5, .box ((List.range i).foldl (fun s i => withI s (lo + i)) ISet.none).cells)])) (fun i => i ≤ hi + 1 - lo) (fun i => hi + 1 - lo - i) 0 (Nat.zero_le _) rfl ?_
  intro i hi' ih
  simp only
  generalize hs : (List.range i).foldl (fun s i => withI s (lo + i)) ISet.none = s
  obtain ⟨s0, s1, s2, s3⟩ := s
  by_cases hle : lo + i ≤ hi
  · have e3 := wr_u8n (n := lo + i) (by omega)
    have e4 : ((lo + i : Nat) : Int) ≤ (hi : Int) := by omega
    repeat' (first
    | refine AGood.seq ?_
    | refine AGood.skip ?_
    | refine AGood.block ?_
    | refine AGood.inBlock ?_
    | refine AGood.exit rfl ?_
    | (refine AGood.reg LL_ok [] [0, 1, 4, 5, 6, 13] (by kernel_rfl) ?_; intro K hK; simp only [go_sem, Nat.reduceAdd, Nat.reduceSub, Nat.reduceMul, Nat.reduceLT, Nat.reduceLeDiff, Nat.reduceEqDiff, Nat.reduceDiv, Nat.reduceBEq, Int.reduceNeg, reduceCtorEq, ↓reduceIte, Int.reduceEq, Int.reduceLT, Int.reduceLE, Int.reduceToNat, Int.reduceAdd, Int.reduceSub, Int.reduceMul, Nat.reducePow, e1, e2, e3, e4])
    | (refine ACall.mono (ACall.alone (with_c _ _ _ _ (lo + i) (by omega)) rfl rfl rfl) ?_; rintro _ _ ⟨rfl, rfl⟩; simp only [go_sem, Nat.reduceAdd, Nat.reduceSub, Nat.reduceMul, Nat.reduceLT, Nat.reduceLeDiff, Nat.reduceEqDiff, Nat.reduceDiv, Nat.reduceBEq, Int.reduceNeg, reduceCtorEq, ↓reduceIte, Int.reduceEq, Int.reduceLT, Int.reduceLE, Int.reduceToNat, Int.reduceAdd, Int.reduceSub, Int.reduceMul, Nat.reducePow, e1, e2, e3, e4])
    | (refine hK _ _ ?_; clear hK K; simp only [prune, List.map_cons, List.map_nil, lk_hit, lk_miss, lk_nil, ne_eq, Nat.reduceEqDiff, not_false_eq_true])
    | (refine gd_split ?_ ?_ <;> intro hb <;> (try simp only [Bool.not_eq_true', Bool.not_eq_false', decide_eq_true_eq, decide_eq_false_iff_not, Bool.not_true, Bool.not_false, Bool.not_eq_true, Bool.not_eq_false] at hb) <;> simp only [go_sem, Nat.reduceAdd, Nat.reduceSub, Nat.reduceMul, Nat.reduceLT, Nat.reduceLeDiff, Nat.reduceEqDiff, Nat.reduceDiv, Nat.reduceBEq, Int.reduceNeg, reduceCtorEq, ↓reduceIte, Int.reduceEq, Int.reduceLT, Int.reduceLE, Int.reduceToNat, Int.reduceAdd, Int.reduceSub, Int.reduceMul, Nat.reducePow, e1, e2, e3, e4, hb])
    | (refine AGood.condT ?_ rfl ?_; focus (simp only [ev_tmp, ev_const, oc_bool, lk_hit, lk_miss, ne_eq, Nat.reduceEqDiff, not_false_eq_true]; done))
    | (refine AGood.condF ?_ rfl ?_; focus (simp only [ev_tmp, ev_const, oc_bool, lk_hit, lk_miss, ne_eq, Nat.reduceEqDiff, not_false_eq_true]; done))
    | (refine AGood.cond (by simp only [ev_tmp, ev_const, oc_bool, lk_hit, lk_miss, ne_eq, Nat.reduceEqDiff, not_false_eq_true]; rfl) rfl ?_ ?_ <;> intro hc <;> (try simp only [Bool.not_eq_true', Bool.not_eq_false', decide_eq_true_eq, decide_eq_false_iff_not, Bool.not_true, Bool.not_false, Bool.not_eq_true, Bool.not_eq_false] at hc) <;> (try simp only [hc, decide_true, decide_false, Bool.not_true, Bool.not_false]))
    | (intro _)
    | (refine And.intro ?_ ?_)
    | (refine AGood.retF LL_ok [] [.cell 4 35] rfl ?_; simp only [sf_nil, sf_cons, go_sem, Nat.reduceAdd, Nat.reduceSub, Nat.reduceMul, Nat.reduceLT, Nat.reduceLeDiff, Nat.reduceEqDiff, Nat.reduceDiv, Nat.reduceBEq, Int.reduceNeg, reduceCtorEq, ↓reduceIte, Int.reduceEq, Int.reduceLT, Int.reduceLE, Int.reduceToNat, Int.reduceAdd, Int.reduceSub, Int.reduceMul, Nat.reducePow])
    | (refine AGood.doneF LL_ok [] [.cell 4 35] rfl ?_; simp only [sf_nil, sf_cons, go_sem, Nat.reduceAdd, Nat.reduceSub, Nat.reduceMul, Nat.reduceLT, Nat.reduceLeDiff, Nat.reduceEqDiff, Nat.reduceDiv, Nat.reduceBEq, Int.reduceNeg, reduceCtorEq, ↓reduceIte, Int.reduceEq, Int.reduceLT, Int.reduceLE, Int.reduceToNat, Int.reduceAdd, Int.reduceSub, Int.reduceMul, Nat.reducePow]))
    · omega
    · omega
    · refine AGood.prune [0, 1, 4, 5, 6] ?_; simp only [prune, List.map_cons, List.map_nil, lk_hit, lk_miss, lk_nil, ne_eq, Nat.reduceEqDiff, not_false_eq_true]
      exact (ih (i + 1) (by omega) (by omega)).cast rfl (by rw [List.range_succ, List.foldl_append, hs]; rfl)
  · have e4 : ¬ ((lo + i : Nat) : Int) ≤ (hi : Int) := by omega
    have e5 : i = hi + 1 - lo := by omega
    subst e5
    repeat' (first
    | refine AGood.seq ?_
    | refine AGood.skip ?_
    | refine AGood.block ?_
    | refine AGood.inBlock ?_
    | refine AGood.exit rfl ?_
    | (refine AGood.reg LL_ok [] [0, 1, 4, 5, 6, 13] (by kernel_rfl) ?_; intro K hK; simp only [go_sem, Nat.reduceAdd, Nat.reduceSub, Nat.reduceMul, Nat.reduceLT, Nat.reduceLeDiff, Nat.reduceEqDiff, Nat.reduceDiv, Nat.reduceBEq, Int.reduceNeg, reduceCtorEq, ↓reduceIte, Int.reduceEq, Int.reduceLT, Int.reduceLE, Int.reduceToNat, Int.reduceAdd, Int.reduceSub, Int.reduceMul, Nat.reducePow, e1, e2, e4])
    | (refine hK _ _ ?_; clear hK K; simp only [prune, List.map_cons, List.map_nil, lk_hit, lk_miss, lk_nil, ne_eq, Nat.reduceEqDiff, not_false_eq_true])
    | (refine gd_split ?_ ?_ <;> intro hb <;> (try simp only [Bool.not_eq_true', Bool.not_eq_false', decide_eq_true_eq, decide_eq_false_iff_not, Bool.not_true, Bool.not_false, Bool.not_eq_true, Bool.not_eq_false] at hb) <;> simp only [go_sem, Nat.reduceAdd, Nat.reduceSub, Nat.reduceMul, Nat.reduceLT, Nat.reduceLeDiff, Nat.reduceEqDiff, Nat.reduceDiv, Nat.reduceBEq, Int.reduceNeg, reduceCtorEq, ↓reduceIte, Int.reduceEq, Int.reduceLT, Int.reduceLE, Int.reduceToNat, Int.reduceAdd, Int.reduceSub, Int.reduceMul, Nat.reducePow, e1, e2, e4, hb])
    | (refine AGood.condT ?_ rfl ?_; focus (simp only [ev_tmp, ev_const, oc_bool, lk_hit, lk_miss, ne_eq, Nat.reduceEqDiff, not_false_eq_true]; done))
    | (refine AGood.condF ?_ rfl ?_; focus (simp only [ev_tmp, ev_const, oc_bool, lk_hit, lk_miss, ne_eq, Nat.reduceEqDiff, not_false_eq_true]; done))
    | (refine AGood.cond (by simp only [ev_tmp, ev_const, oc_bool, lk_hit, lk_miss, ne_eq, Nat.reduceEqDiff, not_false_eq_true]; rfl) rfl ?_ ?_ <;> intro hc <;> (try simp only [Bool.not_eq_true', Bool.not_eq_false', decide_eq_true_eq, decide_eq_false_iff_not, Bool.not_true, Bool.not_false, Bool.not_eq_true, Bool.not_eq_false] at hc) <;> (try simp only [hc, decide_true, decide_false, Bool.not_true, Bool.not_false]))
    | (intro _)
    | (refine And.intro ?_ ?_)
    | (refine AGood.retF LL_ok [] [.cell 4 35] rfl ?_; simp only [sf_nil, sf_cons, go_sem, Nat.reduceAdd, Nat.reduceSub, Nat.reduceMul, Nat.reduceLT, Nat.reduceLeDiff, Nat.reduceEqDiff, Nat.reduceDiv, Nat.reduceBEq, Int.reduceNeg, reduceCtorEq, ↓reduceIte, Int.reduceEq, Int.reduceLT, Int.reduceLE, Int.reduceToNat, Int.reduceAdd, Int.reduceSub, Int.reduceMul, Nat.reducePow])
    | (refine AGood.doneF LL_ok [] [.cell 4 35] rfl ?_; simp only [sf_nil, sf_cons, go_sem, Nat.reduceAdd, Nat.reduceSub, Nat.reduceMul, Nat.reduceLT, Nat.reduceLeDiff, Nat.reduceEqDiff, Nat.reduceDiv, Nat.reduceBEq, Int.reduceNeg, reduceCtorEq, ↓reduceIte, Int.reduceEq, Int.reduceLT, Int.reduceLE, Int.reduceToNat, Int.reduceAdd, Int.reduceSub, Int.reduceMul, Nat.reducePow]))
    simp only [rangeI, hs]

def notI (x : ISet) : ISet := (List.range 256).foldl (fun s b => if hasI x b then s else withI s b) ISet.none
theorem not_c (x0 x1 x2 x3 : Int) : ACall Try.prog 88 [.agg [.int .u64 x0, .int .u64 x1, .int .u64 x2, .int .u64 x3]] [] fun r s' => r = .agg (notI ⟨x0, x1, x2, x3⟩).cells ∧ s' = [] := by
  refine ACall.enter Try.func88 rfl (by kernel_rfl) (Nat.le_of_ble_eq_true rfl) ?_; simp only [initTm, Nat.reduceAdd]
  repeat' (first
    | refine AGood.seq ?_
    | refine AGood.skip ?_
    | refine AGood.block ?_
    | refine AGood.inBlock ?_
    | refine AGood.exit rfl ?_
    | (refine AGood.reg LL_ok [] [0, 1, 2, 3, 4, 7, 14] (by kernel_rfl) ?_; intro K hK; simp only [go_sem, Nat.reduceAdd, Nat.reduceSub, Nat.reduceMul, Nat.reduceLT, Nat.reduceLeDiff, Nat.reduceEqDiff, Nat.reduceDiv, Nat.reduceBEq, Int.reduceNeg, reduceCtorEq, ↓reduceIte, Int.reduceEq, Int.reduceLT, Int.reduceLE, Int.reduceToNat, Int.reduceAdd, Int.reduceSub, Int.reduceMul, Nat.reducePow])
    | (refine hK _ _ ?_; clear hK K; simp only [prune, List.map_cons, List.map_nil, lk_hit, lk_miss, lk_nil, ne_eq, Nat.reduceEqDiff, not_false_eq_true])
    | (refine gd_split ?_ ?_ <;> intro hb <;> (try simp only [Bool.not_eq_true', Bool.not_eq_false', decide_eq_true_eq, decide_eq_false_iff_not, Bool.not_true, Bool.not_false, Bool.not_eq_true, Bool.not_eq_false] at hb) <;> simp only [go_sem, Nat.reduceAdd, Nat.reduceSub, Nat.reduceMul, Nat.reduceLT, Nat.reduceLeDiff, Nat.reduceEqDiff, Nat.reduceDiv, Nat.reduceBEq, Int.reduceNeg, reduceCtorEq, ↓reduceIte, Int.reduceEq, Int.reduceLT, Int.reduceLE, Int.reduceToNat, Int.reduceAdd, Int.reduceSub, Int.reduceMul, Nat.reducePow, hb])
    | (refine AGood.condT ?_ rfl ?_; focus (simp only [ev_tmp, ev_const, oc_bool, lk_hit, lk_miss, ne_eq, Nat.reduceEqDiff, not_false_eq_true]; done))
    | (refine AGood.condF ?_ rfl ?_; focus (simp only [ev_tmp, ev_const, oc_bool, lk_hit, lk_miss, ne_eq, Nat.reduceEqDiff, not_false_eq_true]; done))
    | (refine AGood.cond (by simp only [ev_tmp, ev_const, oc_bool, lk_hit, lk_miss, ne_eq, Nat.reduceEqDiff, not_false_eq_true]; rfl) rfl ?_ ?_ <;> intro hc <;> (try simp only [Bool.not_eq_true', Bool.not_eq_false', decide_eq_true_eq, decide_eq_false_iff_not, Bool.not_true, Bool.not_false, Bool.not_eq_true, Bool.not_eq_false] at hc) <;> (try simp only [hc, decide_true, decide_false, Bool.not_true, Bool.not_false]))
    | (intro _)
    | (refine And.intro ?_ ?_)
    | (refine AGood.retF LL_ok [] [.cell 2 35] rfl ?_; simp only [sf_nil, sf_cons, go_sem, Nat.reduceAdd, Nat.reduceSub, Nat.reduceMul, Nat.reduceLT, Nat.reduceLeDiff, Nat.reduceEqDiff, Nat.reduceDiv, Nat.reduceBEq, Int.reduceNeg, reduceCtorEq, ↓reduceIte, Int.reduceEq, Int.reduceLT, Int.reduceLE, Int.reduceToNat, Int.reduceAdd, Int.reduceSub, Int.reduceMul, Nat.reducePow])
    | (refine AGood.doneF LL_ok [] [.cell 2 35] rfl ?_; simp only [sf_nil, sf_cons, go_sem, Nat.reduceAdd, Nat.reduceSub, Nat.reduceMul, Nat.reduceLT, Nat.reduceLeDiff, Nat.reduceEqDiff, Nat.reduceDiv, Nat.reduceBEq, Int.reduceNeg, reduceCtorEq, ↓reduceIte, Int.reduceEq, Int.reduceLT, Int.reduceLE, Int.reduceToNat, Int.reduceAdd, Int.reduceSub, Int.reduceMul, Nat.reducePow]))
  rename_i h1 h2 h3
  refine AGood.prune [0, 1, 2, 3, 4] ?_; simp only [prune, List.map_cons, List.map_nil, lk_hit, lk_miss, lk_nil, ne_eq, Nat.reduceEqDiff, not_false_eq_true]
  refine AGood.loopInv (α := Nat) (fun i => ([(0, .agg [.int .u64 x0, .int .u64 x1, .int .u64 x2, .int .u64 x3]), (1, .bx 1 h1 0), (2, .bx 2 h2 0), (3, .bx 3 h3 0), (4, .int .i64 i)], [(1, h1, .box [.int .u64 x0, .int .u64 x1, .int .u64 x2, .int .u64 x3]), (2, h2, .box ISet.none.cells), (3, h3, .box ((List.range i).foldl (fun s b => if hasI ⟨x0, x1, x2, x3⟩ b then s else withI s b) ISet.none).cells)])) (fun i => i ≤ 256) (fun i => 256 - i) 0 (Nat.zero_le _) rfl ?_
  intro i hi ih
  simp only
  generalize hs : (List.range i).foldl (fun s b => if hasI ⟨x0, x1, x2, x3⟩ b then s else withI s b) ISet.none = s
  obtain ⟨s0, s1, s2, s3⟩ := s
  by_cases hle : i < 256
  · have e3 := wr_u8n (n := i) (by omega)
    have e4 : (i : Int) < 256 := by omega
    have ih := ih (i + 1) (by omega) (by omega)
    rw [List.range_succ, List.foldl_append, hs] at ih
    cases hh : hasI ⟨x0, x1, x2, x3⟩ i
    all_goals
      repeat' (first
    | refine AGood.seq ?_
    | refine AGood.skip ?_
    | refine AGood.block ?_
    | refine AGood.inBlock ?_
    | refine AGood.exit rfl ?_
    | (refine AGood.reg LL_ok [] [0, 1, 2, 3, 4, 7, 14] (by kernel_rfl) ?_; intro K hK; simp only [go_sem, Nat.reduceAdd, Nat.reduceSub, Nat.reduceMul, Nat.reduceLT, Nat.reduceLeDiff, Nat.reduceEqDiff, Nat.reduceDiv, Nat.reduceBEq, Int.reduceNeg, reduceCtorEq, ↓reduceIte, Int.reduceEq, Int.reduceLT, Int.reduceLE, Int.reduceToNat, Int.reduceAdd, Int.reduceSub, Int.reduceMul, Nat.reducePow, e3, e4, hh])
    | (refine ACall.mono (ACall.alone (with_c _ _ _ _ i (by omega)) rfl rfl rfl) ?_; rintro _ _ ⟨rfl, rfl⟩; simp only [go_sem, Nat.reduceAdd, Nat.reduceSub, Nat.reduceMul, Nat.reduceLT, Nat.reduceLeDiff, Nat.reduceEqDiff, Nat.reduceDiv, Nat.reduceBEq, Int.reduceNeg, reduceCtorEq, ↓reduceIte, Int.reduceEq, Int.reduceLT, Int.reduceLE, Int.reduceToNat, Int.reduceAdd, Int.reduceSub, Int.reduceMul, Nat.reducePow, e3, e4, hh])
    | (refine ACall.mono (ACall.alone (has_c _ _ _ _ i (by omega)) rfl rfl rfl) ?_; rintro _ _ ⟨rfl, rfl⟩; simp only [go_sem, Nat.reduceAdd, Nat.reduceSub, Nat.reduceMul, Nat.reduceLT, Nat.reduceLeDiff, Nat.reduceEqDiff, Nat.reduceDiv, Nat.reduceBEq, Int.reduceNeg, reduceCtorEq, ↓reduceIte, Int.reduceEq, Int.reduceLT, Int.reduceLE, Int.reduceToNat, Int.reduceAdd, Int.reduceSub, Int.reduceMul, Nat.reducePow, e3, e4, hh])
    | (refine hK _ _ ?_; clear hK K; simp only [prune, List.map_cons, List.map_nil, lk_hit, lk_miss, lk_nil, ne_eq, Nat.reduceEqDiff, not_false_eq_true])
    | (refine gd_split ?_ ?_ <;> intro hb <;> (try simp only [Bool.not_eq_true', Bool.not_eq_false', decide_eq_true_eq, decide_eq_false_iff_not, Bool.not_true, Bool.not_false, Bool.not_eq_true, Bool.not_eq_false] at hb) <;> simp only [go_sem, Nat.reduceAdd, Nat.reduceSub, Nat.reduceMul, Nat.reduceLT, Nat.reduceLeDiff, Nat.reduceEqDiff, Nat.reduceDiv, Nat.reduceBEq, Int.reduceNeg, reduceCtorEq, ↓reduceIte, Int.reduceEq, Int.reduceLT, Int.reduceLE, Int.reduceToNat, Int.reduceAdd, Int.reduceSub, Int.reduceMul, Nat.reducePow, e3, e4, hh, hb])
    | (refine AGood.condT ?_ rfl ?_; focus (simp only [ev_tmp, ev_const, oc_bool, lk_hit, lk_miss, ne_eq, Nat.reduceEqDiff, not_false_eq_true]; done))
    | (refine AGood.condF ?_ rfl ?_; focus (simp only [ev_tmp, ev_const, oc_bool, lk_hit, lk_miss, ne_eq, Nat.reduceEqDiff, not_false_eq_true]; done))
    | (refine AGood.cond (by simp only [ev_tmp, ev_const, oc_bool, lk_hit, lk_miss, ne_eq, Nat.reduceEqDiff, not_false_eq_true]; rfl) rfl ?_ ?_ <;> intro hc <;> (try simp only [Bool.not_eq_true', Bool.not_eq_false', decide_eq_true_eq, decide_eq_false_iff_not, Bool.not_true, Bool.not_false, Bool.not_eq_true, Bool.not_eq_false] at hc) <;> (try simp only [hc, decide_true, decide_false, Bool.not_true, Bool.not_false]))
    | (intro _)
    | (refine And.intro ?_ ?_)
    | (refine AGood.retF LL_ok [] [.cell 2 35] rfl ?_; simp only [sf_nil, sf_cons, go_sem, Nat.reduceAdd, Nat.reduceSub, Nat.reduceMul, Nat.reduceLT, Nat.reduceLeDiff, Nat.reduceEqDiff, Nat.reduceDiv, Nat.reduceBEq, Int.reduceNeg, reduceCtorEq, ↓reduceIte, Int.reduceEq, Int.reduceLT, Int.reduceLE, Int.reduceToNat, Int.reduceAdd, Int.reduceSub, Int.reduceMul, Nat.reducePow])
    | (refine AGood.doneF LL_ok [] [.cell 2 35] rfl ?_; simp only [sf_nil, sf_cons, go_sem, Nat.reduceAdd, Nat.reduceSub, Nat.reduceMul, Nat.reduceLT, Nat.reduceLeDiff, Nat.reduceEqDiff, Nat.reduceDiv, Nat.reduceBEq, Int.reduceNeg, reduceCtorEq, ↓reduceIte, Int.reduceEq, Int.reduceLT, Int.reduceLE, Int.reduceToNat, Int.reduceAdd, Int.reduceSub, Int.reduceMul, Nat.reducePow]))
    all_goals first | omega | skip
    all_goals
      refine AGood.prune [0, 1, 2, 3, 4] ?_; simp only [prune, List.map_cons, List.map_nil, lk_hit, lk_miss, lk_nil, ne_eq, Nat.reduceEqDiff, not_false_eq_true]
      exact ih.cast rfl (by simp [hh])
  · have e4 : ¬ (i : Int) < 256 := by omega
    have e5 : i = 256 := by omega
    subst e5
    repeat' (first
    | refine AGood.seq ?_
    | refine AGood.skip ?_
    | refine AGood.block ?_
    | refine AGood.inBlock ?_
    | refine AGood.exit rfl ?_
    | (refine AGood.reg LL_ok [] [0, 1, 2, 3, 4, 7, 14] (by kernel_rfl) ?_; intro K hK; simp only [go_sem, Nat.reduceAdd, Nat.reduceSub, Nat.reduceMul, Nat.reduceLT, Nat.reduceLeDiff, Nat.reduceEqDiff, Nat.reduceDiv, Nat.reduceBEq, Int.reduceNeg, reduceCtorEq, ↓reduceIte, Int.reduceEq, Int.reduceLT, Int.reduceLE, Int.reduceToNat, Int.reduceAdd, Int.reduceSub, Int.reduceMul, Nat.reducePow, e4])
    | (refine hK _ _ ?_; clear hK K; simp only [prune, List.map_cons, List.map_nil, lk_hit, lk_miss, lk_nil, ne_eq, Nat.reduceEqDiff, not_false_eq_true])
    | (refine gd_split ?_ ?_ <;> intro hb <;> (try simp only [Bool.not_eq_true', Bool.not_eq_false', decide_eq_true_eq, decide_eq_false_iff_not, Bool.not_true, Bool.not_false, Bool.not_eq_true, Bool.not_eq_false] at hb) <;> simp only [go_sem, Nat.reduceAdd, Nat.reduceSub, Nat.reduceMul, Nat.reduceLT, Nat.reduceLeDiff, Nat.reduceEqDiff, Nat.reduceDiv, Nat.reduceBEq, Int.reduceNeg, reduceCtorEq, ↓reduceIte, Int.reduceEq, Int.reduceLT, Int.reduceLE, Int.reduceToNat, Int.reduceAdd, Int.reduceSub, Int.reduceMul, Nat.reducePow, e4, hb])
    | (refine AGood.condT ?_ rfl ?_; focus (simp only [ev_tmp, ev_const, oc_bool, lk_hit, lk_miss, ne_eq, Nat.reduceEqDiff, not_false_eq_true]; done))
    | (refine AGood.condF ?_ rfl ?_; focus (simp only [ev_tmp, ev_const, oc_bool, lk_hit, lk_miss, ne_eq, Nat.reduceEqDiff, not_false_eq_true]; done))
    | (refine AGood.cond (by simp only [ev_tmp, ev_const, oc_bool, lk_hit, lk_miss, ne_eq, Nat.reduceEqDiff, not_false_eq_true]; rfl) rfl ?_ ?_ <;> intro hc <;> (try simp only [Bool.not_eq_true', Bool.not_eq_false', decide_eq_true_eq, decide_eq_false_iff_not, Bool.not_true, Bool.not_false, Bool.not_eq_true, Bool.not_eq_false] at hc) <;> (try simp only [hc, decide_true, decide_false, Bool.not_true, Bool.not_false]))
    | (intro _)
    | (refine And.intro ?_ ?_)
    | (refine AGood.retF LL_ok [] [.cell 2 35] rfl ?_; simp only [sf_nil, sf_cons, go_sem, Nat.reduceAdd, Nat.reduceSub, Nat.reduceMul, Nat.reduceLT, Nat.reduceLeDiff, Nat.reduceEqDiff, Nat.reduceDiv, Nat.reduceBEq, Int.reduceNeg, reduceCtorEq, ↓reduceIte, Int.reduceEq, Int.reduceLT, Int.reduceLE, Int.reduceToNat, Int.reduceAdd, Int.reduceSub, Int.reduceMul, Nat.reducePow])
    | (refine AGood.doneF LL_ok [] [.cell 2 35] rfl ?_; simp only [sf_nil, sf_cons, go_sem, Nat.reduceAdd, Nat.reduceSub, Nat.reduceMul, Nat.reduceLT, Nat.reduceLeDiff, Nat.reduceEqDiff, Nat.reduceDiv, Nat.reduceBEq, Int.reduceNeg, reduceCtorEq, ↓reduceIte, Int.reduceEq, Int.reduceLT, Int.reduceLE, Int.reduceToNat, Int.reduceAdd, Int.reduceSub, Int.reduceMul, Nat.reducePow]))
    simp only [notI, hs]

def orI (l : List ISet) : ISet := (List.range 256).foldl (fun s b => l.foldl (fun s x => if hasI x b then withI s b else s) s) ISet.none
abbrev sets (l : List ISet) : List (List AVal) := l.map ISet.cells
theorem or_c (q f : Bool) (l : List ISet) (hl : l.length ≤ 1000000) : ACall Try.prog 102 [.sl q f (sets l)] [] fun r s' => r = .agg (orI l).cells ∧ s' = [] := by
  refine ACall.enter Try.func102 rfl (by kernel_rfl) (Nat.le_of_ble_eq_true rfl) ?_; simp only [initTm, Nat.reduceAdd]
  repeat' (first
    | refine AGood.seq ?_
    | refine AGood.skip ?_
    | refine AGood.block ?_
    | refine AGood.inBlock ?_
    | refine AGood.exit rfl ?_
    | (refine AGood.reg LL_ok [] [0, 2, 3, 4, 5, 8, 14, 23] (by kernel_rfl) ?_; intro K hK; simp only [go_sem, Nat.reduceAdd, Nat.reduceSub, Nat.reduceMul, Nat.reduceLT, Nat.reduceLeDiff, Nat.reduceEqDiff, Nat.reduceDiv, Nat.reduceBEq, Int.reduceNeg, reduceCtorEq, ↓reduceIte, Int.reduceEq, Int.reduceLT, Int.reduceLE, Int.reduceToNat, Int.reduceAdd, Int.reduceSub, Int.reduceMul, Nat.reducePow])
    | (refine hK _ _ ?_; clear hK K; simp only [prune, List.map_cons, List.map_nil, lk_hit, lk_miss, lk_nil, ne_eq, Nat.reduceEqDiff, not_false_eq_true])
    | (refine gd_split ?_ ?_ <;> intro hb <;> (try simp only [Bool.not_eq_true', Bool.not_eq_false', decide_eq_true_eq, decide_eq_false_iff_not, Bool.not_true, Bool.not_false, Bool.not_eq_true, Bool.not_eq_false] at hb) <;> simp only [go_sem, Nat.reduceAdd, Nat.reduceSub, Nat.reduceMul, Nat.reduceLT, Nat.reduceLeDiff, Nat.reduceEqDiff, Nat.reduceDiv, Nat.reduceBEq, Int.reduceNeg, reduceCtorEq, ↓reduceIte, Int.reduceEq, Int.reduceLT, Int.reduceLE, Int.reduceToNat, Int.reduceAdd, Int.reduceSub, Int.reduceMul, Nat.reducePow, hb])
    | (refine AGood.condT ?_ rfl ?_; focus (simp only [ev_tmp, ev_const, oc_bool, lk_hit, lk_miss, ne_eq, Nat.reduceEqDiff, not_false_eq_true]; done))
    | (refine AGood.condF ?_ rfl ?_; focus (simp only [ev_tmp, ev_const, oc_bool, lk_hit, lk_miss, ne_eq, Nat.reduceEqDiff, not_false_eq_true]; done))
    | (refine AGood.cond (by simp only [ev_tmp, ev_const, oc_bool, lk_hit, lk_miss, ne_eq, Nat.reduceEqDiff, not_false_eq_true]; rfl) rfl ?_ ?_ <;> intro hc <;> (try simp only [Bool.not_eq_true', Bool.not_eq_false', decide_eq_true_eq, decide_eq_false_iff_not, Bool.not_true, Bool.not_false, Bool.not_eq_true, Bool.not_eq_false] at hc) <;> (try simp only [hc, decide_true, decide_false, Bool.not_true, Bool.not_false]))
    | (intro _)
    | (refine And.intro ?_ ?_)
    | (refine AGood.retF LL_ok [] [.cell 2 35] rfl ?_; simp only [sf_nil, sf_cons, go_sem, Nat.reduceAdd, Nat.reduceSub, Nat.reduceMul, Nat.reduceLT, Nat.reduceLeDiff, Nat.reduceEqDiff, Nat.reduceDiv, Nat.reduceBEq, Int.reduceNeg, reduceCtorEq, ↓reduceIte, Int.reduceEq, Int.reduceLT, Int.reduceLE, Int.reduceToNat, Int.reduceAdd, Int.reduceSub, Int.reduceMul, Nat.reducePow])
    | (refine AGood.doneF LL_ok [] [.cell 2 35] rfl ?_; simp only [sf_nil, sf_cons, go_sem, Nat.reduceAdd, Nat.reduceSub, Nat.reduceMul, Nat.reduceLT, Nat.reduceLeDiff, Nat.reduceEqDiff, Nat.reduceDiv, Nat.reduceBEq, Int.reduceNeg, reduceCtorEq, ↓reduceIte, Int.reduceEq, Int.reduceLT, Int.reduceLE, Int.reduceToNat, Int.reduceAdd, Int.reduceSub, Int.reduceMul, Nat.reducePow]))
  rename_i h2 h3
  refine AGood.prune [0, 2, 3, 4] ?_; simp only [prune, List.map_cons, List.map_nil, lk_hit, lk_miss, lk_nil, ne_eq, Nat.reduceEqDiff, not_false_eq_true]
  refine AGood.loopInv (α := Nat) (fun b => ([(0, .sl q f (sets l)), (2, .bx 2 h2 0), (3, .bx 3 h3 0), (4, .int .i64 b)], [(2, h2, .box ISet.none.cells), (3, h3, .box ((List.range b).foldl (fun s b => l.foldl (fun s x => if hasI x b then withI s b else s) s) ISet.none).cells)])) (fun b => b ≤ 256) (fun b => 256 - b) 0 (Nat.zero_le _) rfl ?_
  intro b hb ih
  simp only
  generalize hs : (List.range b).foldl (fun s b => l.foldl (fun s x => if hasI x b then withI s b else s) s) ISet.none = s
  obtain ⟨s0, s1, s2, s3⟩ := s
  by_cases hle : b < 256
  · have e4 : (b : Int) < 256 := by omega
    have e3 := wr_u8n (n := b) (by omega)
    have ih := ih (b + 1) (by omega) (by omega)
    rw [List.range_succ, List.foldl_append, hs] at ih
    repeat' (first
    | refine AGood.seq ?_
    | refine AGood.skip ?_
    | refine AGood.block ?_
    | refine AGood.inBlock ?_
    | refine AGood.exit rfl ?_
    | (refine AGood.reg LL_ok [] [0, 2, 3, 4, 5, 8, 14, 23] (by kernel_rfl) ?_; intro K hK; simp only [go_sem, Nat.reduceAdd, Nat.reduceSub, Nat.reduceMul, Nat.reduceLT, Nat.reduceLeDiff, Nat.reduceEqDiff, Nat.reduceDiv, Nat.reduceBEq, Int.reduceNeg, reduceCtorEq, ↓reduceIte, Int.reduceEq, Int.reduceLT, Int.reduceLE, Int.reduceToNat, Int.reduceAdd, Int.reduceSub, Int.reduceMul, Nat.reducePow, e4])
    | (refine hK _ _ ?_; clear hK K; simp only [prune, List.map_cons, List.map_nil, lk_hit, lk_miss, lk_nil, ne_eq, Nat.reduceEqDiff, not_false_eq_true])
    | (refine gd_split ?_ ?_ <;> intro hb <;> (try simp only [Bool.not_eq_true', Bool.not_eq_false', decide_eq_true_eq, decide_eq_false_iff_not, Bool.not_true, Bool.not_false, Bool.not_eq_true, Bool.not_eq_false] at hb) <;> simp only [go_sem, Nat.reduceAdd, Nat.reduceSub, Nat.reduceMul, Nat.reduceLT, Nat.reduceLeDiff, Nat.reduceEqDiff, Nat.reduceDiv, Nat.reduceBEq, Int.reduceNeg, reduceCtorEq, ↓reduceIte, Int.reduceEq, Int.reduceLT, Int.reduceLE, Int.reduceToNat, Int.reduceAdd, Int.reduceSub, Int.reduceMul, Nat.reducePow, e4, hb])
    | (refine AGood.condT ?_ rfl ?_; focus (simp only [ev_tmp, ev_const, oc_bool, lk_hit, lk_miss, ne_eq, Nat.reduceEqDiff, not_false_eq_true]; done))
    | (refine AGood.condF ?_ rfl ?_; focus (simp only [ev_tmp, ev_const, oc_bool, lk_hit, lk_miss, ne_eq, Nat.reduceEqDiff, not_false_eq_true]; done))
    | (refine AGood.cond (by simp only [ev_tmp, ev_const, oc_bool, lk_hit, lk_miss, ne_eq, Nat.reduceEqDiff, not_false_eq_true]; rfl) rfl ?_ ?_ <;> intro hc <;> (try simp only [Bool.not_eq_true', Bool.not_eq_false', decide_eq_true_eq, decide_eq_false_iff_not, Bool.not_true, Bool.not_false, Bool.not_eq_true, Bool.not_eq_false] at hc) <;> (try simp only [hc, decide_true, decide_false, Bool.not_true, Bool.not_false]))
    | (intro _)
    | (refine And.intro ?_ ?_)
    | (refine AGood.retF LL_ok [] [.cell 2 35] rfl ?_; simp only [sf_nil, sf_cons, go_sem, Nat.reduceAdd, Nat.reduceSub, Nat.reduceMul, Nat.reduceLT, Nat.reduceLeDiff, Nat.reduceEqDiff, Nat.reduceDiv, Nat.reduceBEq, Int.reduceNeg, reduceCtorEq, ↓reduceIte, Int.reduceEq, Int.reduceLT, Int.reduceLE, Int.reduceToNat, Int.reduceAdd, Int.reduceSub, Int.reduceMul, Nat.reducePow])
    | (refine AGood.doneF LL_ok [] [.cell 2 35] rfl ?_; simp only [sf_nil, sf_cons, go_sem, Nat.reduceAdd, Nat.reduceSub, Nat.reduceMul, Nat.reduceLT, Nat.reduceLeDiff, Nat.reduceEqDiff, Nat.reduceDiv, Nat.reduceBEq, Int.reduceNeg, reduceCtorEq, ↓reduceIte, Int.reduceEq, Int.reduceLT, Int.reduceLE, Int.reduceToNat, Int.reduceAdd, Int.reduceSub, Int.reduceMul, Nat.reducePow]))
    refine AGood.prune [0, 2, 3, 4, 5] ?_; simp only [prune, List.map_cons, List.map_nil, lk_hit, lk_miss, lk_nil, ne_eq, Nat.reduceEqDiff, not_false_eq_true]
    refine AGood.loopInv (α := Nat) (fun i => ([(0, .sl q f (sets l)), (2, .bx 2 h2 0), (3, .bx 3 h3 0), (4, .int .i64 b), (5, .int .i64 i)], [(2, h2, .box ISet.none.cells), (3, h3, .box ((l.take i).foldl (fun s x => if hasI x b then withI s b else s) ⟨s0, s1, s2, s3⟩).cells)])) (fun i => i ≤ l.length) (fun i => l.length - i) 0 (Nat.zero_le _) rfl ?_
    intro i hi ih2
    simp only
    generalize ht : (l.take i).foldl (fun s x => if hasI x b then withI s b else s) ⟨s0, s1, s2, s3⟩ = t
    obtain ⟨t0, t1, t2, t3⟩ := t
    by_cases hil : i < l.length
    · have e5 : (i : Int) < l.length := by omega
      have ih2 := ih2 (i + 1) (by omega) (by omega)
      have hk : l[i]? = some l[i] := List.getElem?_eq_getElem hil
      rw [take_one hk, List.foldl_append, ht] at ih2
      generalize l[i] = x at hk ih2
      obtain ⟨x0, x1, x2, x3⟩ := x
      cases hh : hasI ⟨x0, x1, x2, x3⟩ b
      all_goals
        repeat' (first
    | refine AGood.seq ?_
    | refine AGood.skip ?_
    | refine AGood.block ?_
    | refine AGood.inBlock ?_
    | refine AGood.exit rfl ?_
    | (refine AGood.reg LL_ok [] [0, 2, 3, 4, 5, 8, 14, 23] (by kernel_rfl) ?_; intro K hK; simp only [go_sem, Nat.reduceAdd, Nat.reduceSub, Nat.reduceMul, Nat.reduceLT, Nat.reduceLeDiff, Nat.reduceEqDiff, Nat.reduceDiv, Nat.reduceBEq, Int.reduceNeg, reduceCtorEq, ↓reduceIte, Int.reduceEq, Int.reduceLT, Int.reduceLE, Int.reduceToNat, Int.reduceAdd, Int.reduceSub, Int.reduceMul, Nat.reducePow, e3, e4, e5, hk, hh, Option.some.injEq, forall_eq'])
    | (refine ACall.mono (ACall.alone (has_c _ _ _ _ b (by omega)) rfl rfl rfl) ?_; rintro _ _ ⟨rfl, rfl⟩; simp only [go_sem, Nat.reduceAdd, Nat.reduceSub, Nat.reduceMul, Nat.reduceLT, Nat.reduceLeDiff, Nat.reduceEqDiff, Nat.reduceDiv, Nat.reduceBEq, Int.reduceNeg, reduceCtorEq, ↓reduceIte, Int.reduceEq, Int.reduceLT, Int.reduceLE, Int.reduceToNat, Int.reduceAdd, Int.reduceSub, Int.reduceMul, Nat.reducePow, e3, e4, e5, hk, hh, Option.some.injEq, forall_eq'])
    | (refine ACall.mono (ACall.alone (with_c _ _ _ _ b (by omega)) rfl rfl rfl) ?_; rintro _ _ ⟨rfl, rfl⟩; simp only [go_sem, Nat.reduceAdd, Nat.reduceSub, Nat.reduceMul, Nat.reduceLT, Nat.reduceLeDiff, Nat.reduceEqDiff, Nat.reduceDiv, Nat.reduceBEq, Int.reduceNeg, reduceCtorEq, ↓reduceIte, Int.reduceEq, Int.reduceLT, Int.reduceLE, Int.reduceToNat, Int.reduceAdd, Int.reduceSub, Int.reduceMul, Nat.reducePow, e3, e4, e5, hk, hh, Option.some.injEq, forall_eq'])
    | (refine hK _ _ ?_; clear hK K; simp only [prune, List.map_cons, List.map_nil, lk_hit, lk_miss, lk_nil, ne_eq, Nat.reduceEqDiff, not_false_eq_true])
    | (refine gd_split ?_ ?_ <;> intro hb <;> (try simp only [Bool.not_eq_true', Bool.not_eq_false', decide_eq_true_eq, decide_eq_false_iff_not, Bool.not_true, Bool.not_false, Bool.not_eq_true, Bool.not_eq_false] at hb) <;> simp only [go_sem, Nat.reduceAdd, Nat.reduceSub, Nat.reduceMul, Nat.reduceLT, Nat.reduceLeDiff, Nat.reduceEqDiff, Nat.reduceDiv, Nat.reduceBEq, Int.reduceNeg, reduceCtorEq, ↓reduceIte, Int.reduceEq, Int.reduceLT, Int.reduceLE, Int.reduceToNat, Int.reduceAdd, Int.reduceSub, Int.reduceMul, Nat.reducePow, e3, e4, e5, hk, hh, Option.some.injEq, forall_eq', hb])
    | (refine AGood.condT ?_ rfl ?_; focus (simp only [ev_tmp, ev_const, oc_bool, lk_hit, lk_miss, ne_eq, Nat.reduceEqDiff, not_false_eq_true]; done))
    | (refine AGood.condF ?_ rfl ?_; focus (simp only [ev_tmp, ev_const, oc_bool, lk_hit, lk_miss, ne_eq, Nat.reduceEqDiff, not_false_eq_true]; done))
    | (refine AGood.cond (by simp only [ev_tmp, ev_const, oc_bool, lk_hit, lk_miss, ne_eq, Nat.reduceEqDiff, not_false_eq_true]; rfl) rfl ?_ ?_ <;> intro hc <;> (try simp only [Bool.not_eq_true', Bool.not_eq_false', decide_eq_true_eq, decide_eq_false_iff_not, Bool.not_true, Bool.not_false, Bool.not_eq_true, Bool.not_eq_false] at hc) <;> (try simp only [hc, decide_true, decide_false, Bool.not_true, Bool.not_false]))
    | (intro _)
    | (refine And.intro ?_ ?_)
    | (refine AGood.retF LL_ok [] [.cell 2 35] rfl ?_; simp only [sf_nil, sf_cons, go_sem, Nat.reduceAdd, Nat.reduceSub, Nat.reduceMul, Nat.reduceLT, Nat.reduceLeDiff, Nat.reduceEqDiff, Nat.reduceDiv, Nat.reduceBEq, Int.reduceNeg, reduceCtorEq, ↓reduceIte, Int.reduceEq, Int.reduceLT, Int.reduceLE, Int.reduceToNat, Int.reduceAdd, Int.reduceSub, Int.reduceMul, Nat.reducePow])
    | (refine AGood.doneF LL_ok [] [.cell 2 35] rfl ?_; simp only [sf_nil, sf_cons, go_sem, Nat.reduceAdd, Nat.reduceSub, Nat.reduceMul, Nat.reduceLT, Nat.reduceLeDiff, Nat.reduceEqDiff, Nat.reduceDiv, Nat.reduceBEq, Int.reduceNeg, reduceCtorEq, ↓reduceIte, Int.reduceEq, Int.reduceLT, Int.reduceLE, Int.reduceToNat, Int.reduceAdd, Int.reduceSub, Int.reduceMul, Nat.reducePow]))
      all_goals first | omega | skip
      all_goals
        refine AGood.prune [0, 2, 3, 4, 5] ?_; simp only [prune, List.map_cons, List.map_nil, lk_hit, lk_miss, lk_nil, ne_eq, Nat.reduceEqDiff, not_false_eq_true]
        exact ih2.cast rfl (by simp [hh])
    · have e5 : ¬ (i : Int) < l.length := by omega
      rw [List.take_of_length_le (by omega)] at ht
      repeat' (first
    | refine AGood.seq ?_
    | refine AGood.skip ?_
    | refine AGood.block ?_
    | refine AGood.inBlock ?_
    | refine AGood.exit rfl ?_
    | (refine AGood.reg LL_ok [] [0, 2, 3, 4, 5, 8, 14, 23] (by kernel_rfl) ?_; intro K hK; simp only [go_sem, Nat.reduceAdd, Nat.reduceSub, Nat.reduceMul, Nat.reduceLT, Nat.reduceLeDiff, Nat.reduceEqDiff, Nat.reduceDiv, Nat.reduceBEq, Int.reduceNeg, reduceCtorEq, ↓reduceIte, Int.reduceEq, Int.reduceLT, Int.reduceLE, Int.reduceToNat, Int.reduceAdd, Int.reduceSub, Int.reduceMul, Nat.reducePow, e5])
    | (refine hK _ _ ?_; clear hK K; simp only [prune, List.map_cons, List.map_nil, lk_hit, lk_miss, lk_nil, ne_eq, Nat.reduceEqDiff, not_false_eq_true])
    | (refine gd_split ?_ ?_ <;> intro hb <;> (try simp only [Bool.not_eq_true', Bool.not_eq_false', decide_eq_true_eq, decide_eq_false_iff_not, Bool.not_true, Bool.not_false, Bool.not_eq_true, Bool.not_eq_false] at hb) <;> simp only [go_sem, Nat.reduceAdd, Nat.reduceSub, Nat.reduceMul, Nat.reduceLT, Nat.reduceLeDiff, Nat.reduceEqDiff, Nat.reduceDiv, Nat.reduceBEq, Int.reduceNeg, reduceCtorEq, ↓reduceIte, Int.reduceEq, Int.reduceLT, Int.reduceLE, Int.reduceToNat, Int.reduceAdd, Int.reduceSub, Int.reduceMul, Nat.reducePow, e5, hb])
    | (refine AGood.condT ?_ rfl ?_; focus (simp only [ev_tmp, ev_const, oc_bool, lk_hit, lk_miss, ne_eq, Nat.reduceEqDiff, not_false_eq_true]; done))
    | (refine AGood.condF ?_ rfl ?_; focus (simp only [ev_tmp, ev_const, oc_bool, lk_hit, lk_miss, ne_eq, Nat.reduceEqDiff, not_false_eq_true]; done))
    | (refine AGood.cond (by simp only [ev_tmp, ev_const, oc_bool, lk_hit, lk_miss, ne_eq, Nat.reduceEqDiff, not_false_eq_true]; rfl) rfl ?_ ?_ <;> intro hc <;> (try simp only [Bool.not_eq_true', Bool.not_eq_false', decide_eq_true_eq, decide_eq_false_iff_not, Bool.not_true, Bool.not_false, Bool.not_eq_true, Bool.not_eq_false] at hc) <;> (try simp only [hc, decide_true, decide_false, Bool.not_true, Bool.not_false]))
    | (intro _)
    | (refine And.intro ?_ ?_)
    | (refine AGood.retF LL_ok [] [.cell 2 35] rfl ?_; simp only [sf_nil, sf_cons, go_sem, Nat.reduceAdd, Nat.reduceSub, Nat.reduceMul, Nat.reduceLT, Nat.reduceLeDiff, Nat.reduceEqDiff, Nat.reduceDiv, Nat.reduceBEq, Int.reduceNeg, reduceCtorEq, ↓reduceIte, Int.reduceEq, Int.reduceLT, Int.reduceLE, Int.reduceToNat, Int.reduceAdd, Int.reduceSub, Int.reduceMul, Nat.reducePow])
    | (refine AGood.doneF LL_ok [] [.cell 2 35] rfl ?_; simp only [sf_nil, sf_cons, go_sem, Nat.reduceAdd, Nat.reduceSub, Nat.reduceMul, Nat.reduceLT, Nat.reduceLeDiff, Nat.reduceEqDiff, Nat.reduceDiv, Nat.reduceBEq, Int.reduceNeg, reduceCtorEq, ↓reduceIte, Int.reduceEq, Int.reduceLT, Int.reduceLE, Int.reduceToNat, Int.reduceAdd, Int.reduceSub, Int.reduceMul, Nat.reducePow]))
      all_goals first | omega | skip
      refine AGood.prune [0, 2, 3, 4] ?_; simp only [prune, List.map_cons, List.map_nil, lk_hit, lk_miss, lk_nil, ne_eq, Nat.reduceEqDiff, not_false_eq_true]
      exact ih.cast rfl (by simp [ht])
  · have e4 : ¬ (b : Int) < 256 := by omega
    have e5 : b = 256 := by omega
    subst e5
    repeat' (first
    | refine AGood.seq ?_
    | refine AGood.skip ?_
    | refine AGood.block ?_
    | refine AGood.inBlock ?_
    | refine AGood.exit rfl ?_
    | (refine AGood.reg LL_ok [] [0, 2, 3, 4, 5, 8, 14, 23] (by kernel_rfl) ?_; intro K hK; simp only [go_sem, Nat.reduceAdd, Nat.reduceSub, Nat.reduceMul, Nat.reduceLT, Nat.reduceLeDiff, Nat.reduceEqDiff, Nat.reduceDiv, Nat.reduceBEq, Int.reduceNeg, reduceCtorEq, ↓reduceIte, Int.reduceEq, Int.reduceLT, Int.reduceLE, Int.reduceToNat, Int.reduceAdd, Int.reduceSub, Int.reduceMul, Nat.reducePow, e4])
    | (refine hK _ _ ?_; clear hK K; simp only [prune, List.map_cons, List.map_nil, lk_hit, lk_miss, lk_nil, ne_eq, Nat.reduceEqDiff, not_false_eq_true])
    | (refine gd_split ?_ ?_ <;> intro hb <;> (try simp only [Bool.not_eq_true', Bool.not_eq_false', decide_eq_true_eq, decide_eq_false_iff_not, Bool.not_true, Bool.not_false, Bool.not_eq_true, Bool.not_eq_false] at hb) <;> simp only [go_sem, Nat.reduceAdd, Nat.reduceSub, Nat.reduceMul, Nat.reduceLT, Nat.reduceLeDiff, Nat.reduceEqDiff, Nat.reduceDiv, Nat.reduceBEq, Int.reduceNeg, reduceCtorEq, ↓reduceIte, Int.reduceEq, Int.reduceLT, Int.reduceLE, Int.reduceToNat, Int.reduceAdd, Int.reduceSub, Int.reduceMul, Nat.reducePow, e4, hb])
    | (refine AGood.condT ?_ rfl ?_; focus (simp only [ev_tmp, ev_const, oc_bool, lk_hit, lk_miss, ne_eq, Nat.reduceEqDiff, not_false_eq_true]; done))
    | (refine AGood.condF ?_ rfl ?_; focus (simp only [ev_tmp, ev_const, oc_bool, lk_hit, lk_miss, ne_eq, Nat.reduceEqDiff, not_false_eq_true]; done))
    | (refine AGood.cond (by simp only [ev_tmp, ev_const, oc_bool, lk_hit, lk_miss, ne_eq, Nat.reduceEqDiff, not_false_eq_true]; rfl) rfl ?_ ?_ <;> intro hc <;> (try simp only [Bool.not_eq_true', Bool.not_eq_false', decide_eq_true_eq, decide_eq_false_iff_not, Bool.not_true, Bool.not_false, Bool.not_eq_true, Bool.not_eq_false] at hc) <;> (try simp only [hc, decide_true, decide_false, Bool.not_true, Bool.not_false]))
    | (intro _)
    | (refine And.intro ?_ ?_)
    | (refine AGood.retF LL_ok [] [.cell 2 35] rfl ?_; simp only [sf_nil, sf_cons, go_sem, Nat.reduceAdd, Nat.reduceSub, Nat.reduceMul, Nat.reduceLT, Nat.reduceLeDiff, Nat.reduceEqDiff, Nat.reduceDiv, Nat.reduceBEq, Int.reduceNeg, reduceCtorEq, ↓reduceIte, Int.reduceEq, Int.reduceLT, Int.reduceLE, Int.reduceToNat, Int.reduceAdd, Int.reduceSub, Int.reduceMul, Nat.reducePow])
    | (refine AGood.doneF LL_ok [] [.cell 2 35] rfl ?_; simp only [sf_nil, sf_cons, go_sem, Nat.reduceAdd, Nat.reduceSub, Nat.reduceMul, Nat.reduceLT, Nat.reduceLeDiff, Nat.reduceEqDiff, Nat.reduceDiv, Nat.reduceBEq, Int.reduceNeg, reduceCtorEq, ↓reduceIte, Int.reduceEq, Int.reduceLT, Int.reduceLE, Int.reduceToNat, Int.reduceAdd, Int.reduceSub, Int.reduceMul, Nat.reducePow]))
    simp only [orI, hs]
end Go.Rad
