/- Contracts: the document's reader of patterns: atoms, items, rows; a pattern. -/
import Derived.Test.YtejdlelhlpnabaaKC04g
set_option linter.all false
namespace Go.Rad
open Go Go.Proofs
set_option linter.unusedSimpArgs false
set_option maxRecDepth 20000
set_option maxHeartbeats 4000000
attribute [local go_sem] vc_nil vc_move vc_assign vc_pick vc_alloc vc_box vc_build vc_buildSlice vc_load vc_store vc_nilCheck vc_bin_tmp vc_bin_int vc_bin_bool vc_bin_str vc_bin_agg vc_eqNil vc_neNil vc_unOp vc_convert vc_makeFunc vc_makeMap vc_makeSlice vc_slice vc_fieldAddr vc_field vc_indexAddr vc_index vc_lookup vc_mapUpdate vc_extract vc_builtin vc_call vc_guard gd_tt gd_ff gd_tf gd_ft gd_none pk_t pk_f nc_bx nc_loc nc_ref nc_fn cl_fn cl_fq kv_ap kvs_ap kvs_nil kvc_ap frq_ff frq_osl frO_row frq_sl frq_int frq_tup ks_ap kb_ap kb_ap' put_some put_none ev_tmp ev_const ev_func oc_int oc_bool oc_str oc_nil oc_sl oc_map oc_fn oc_agg oc1uint oc1ubool oc1ustr oc1unil oc1usl lk_hit lk_miss sget_hit sget_miss sget_nil sput_nil sput_hit sput_lt sput_gt vcRes_nil vcRes_tmp vcRes_cell retv_one retv_nil retv_more sdel_nil sdel_hit sdel_miss ld_bx ld_loc ld_ref ldB_box ldR_map mkv_ag mkv_one st_bx st_loc sn_bx sn_loc nr_sl nr_int nr_bool nr_str nr_ref nr_nil nr_nilfn nr_nilmap nr_fn nv_agg nv_sl nv_int nv_bool nv_str nv_ref nv_nil nv_fn stB_box stR_row fd_eq fdA_bx fdA_loc fdA_ref foff_st fo_eq foA_agg ix_eq ixA_osl ixO_row ixA_map ixA_abx ixA_aloc ixA_aref iv_eq ivA_str ivA_agg ex_tup ln_eq lnA_str lnA_sl lnA_osl lnA_arr bl_len bl_append bl_max bl_min el_sl el_osl elO_all elO_one elO_row ap_eq apA_sl apE_osl apO_row apE_nil mk_eq mkA_sl bs_eq bsA_sl bsC_some fc_nil fc_st fc_arr fc_sl fcA_some bb_eql bb_neq ba_eql ba_neq eqA_arr eqI_int eqN_some io_nil io_cons io_map ar_i64 ar_u8 ar_u16 ar_u32 ar_u64 ar_i32 un_not un_neg un_xor sl_eq slA_str slA_sl slA_osl ia_none ia_some sf_none sf_some cv_eq cvA_int cvA_str lu_eq luA_map luO_mp lv_some lv_none mu_eq muA_map muO_mp vn_sl vn_osl co_agg co_nil co_nilmap co_nilfn iw_agg iw_nil iw_nilmap iw_nilfn fz_nil fz_fn fz_osl ch_zero ch_succ ch_one sp_eq bi_add bi_sub bi_mul bi_quo bi_rem bi_and bi_or bi_xor bi_andNot bi_eql bi_neq bi_lss bi_leq bi_gtr bi_geq ii_add ii_sub ii_mul ii_quo ii_rem ii_and ii_or ii_xor ii_andNot ii_eql ii_neq ii_lss ii_leq ii_gtr ii_geq bi_shl bi_shr sh_shl sh_shr ss_add ss_eql ss_neq ss_lss ss_gtr ss_leq ss_geq co_bool iw_bool fz_bool co_int iw_int fz_int co_str iw_str fz_str co_sl iw_sl fz_sl co_ref iw_ref fz_ref co_osl iw_osl co_bx iw_bx co_loc iw_loc co_map iw_map co_fn iw_fn List.length_map List.map_cons List.map_nil List.append_nil List.nil_append List.cons_append List.length_cons List.length_nil List.getElem?_cons_zero List.getElem?_cons_succ List.getElem?_nil Option.map_some Option.map_none Option.some.injEq List.take_succ_cons List.take_zero List.drop_succ_cons List.drop_zero List.headD_cons List.all_cons List.all_nil List.replicate List.flatten_cons List.flatten_nil List.toList_toArray Array.toList_empty Nat.zero_add Nat.add_zero Nat.succ_eq_add_one Nat.le_refl List.contains_nil List.contains_cons Bool.or_false Bool.or_true Bool.false_or Bool.true_or Option.getD_some Option.getD_none ne_eq not_false_eq_true not_true_eq_false and_true true_and false_and and_self Bool.and_true Bool.true_and Bool.not_false Bool.not_true Bool.false_eq_true Bool.and_self if_true if_false ite_true ite_false exists_eq_left exists_eq_left' exists_and_left exists_eq forall_eq forall_eq' forall_const imp_self implies_true Option.isSome_none Option.isSome_some Option.isNone_none Prod.mk.injEq Ty.slice.injEq Ty.map.injEq Ty.array.injEq false_implies true_implies decide_true decide_false Int.toNat_natCast Int.toNat_zero Int.natCast_nonneg Int.cast_ofNat_Int Int.natCast_zero Int.natCast_one Nat.not_lt_zero Nat.zero_le Nat.zero_lt_succ Nat.zero_mul LL_1 LL_2 LL_3 LL_4 LL_5 LL_6 LL_7 LL_8 LL_9 LL_10 LL_11 LL_12 LL_13 LL_14 LL_15 LL_16 LL_17 LL_18 LL_19 LL_21 LL_22 LL_23 LL_24 LL_25 LL_27 LL_28 LL_29 LL_30 LL_31 LL_32 LL_33 LL_34 LL_35 LL_36 LL_37 LL_38 LL_39 LL_40 LL_41 LL_42 LL_43 LL_44 LL_45 LL_46 LL_47 LL_48 LL_49 LL_50 LL_51 LL_52 LL_53 LL_54 LL_56 LL_57 LL_58 LL_59 LL_60 LL_61 LL_63 LL_64 LL_65 LL_66 LL_67 LL_68 LL_69 LL_70 LL_71 LL_72 LL_73 LL_74 LL_75 LL_76 LL_77 LL_78 LL_79 LL_80 LL_81 LL_82 LL_83 LL_84 LL_85 LL_87 LL_88 LL_90 LL_91 LL_92 LL_93 LL_94 LL_95 LL_97 LL_98 LL_99 LL_100 LL_101 LL_102 LL_103 LL_104 LL_105 LL_106 LL_108 LL_109 LL_110 LL_111 LL_112 LL_113 LL_114 LL_115 LL_116 LL_117 LL_118 LL_119 LL_120 LL_121 LL_122 LL_123 LL_124 LL_125 LL_126 LL_127 LL_128 LL_131 LL_132 LL_133 LL_134 LL_135 LL_136 LL_137 LL_138 LL_139

/-- An atom: a class, a name, a byte. (Of groups, of dots, and of bytes that may not stand so, nothing is told.) -/
def atomR (s : ByteArray) (F : Nat) (r : Rd) : Option (Rd × Int) :=
  if 100000 < r.nodes.length ∨ s.size ≤ r.p ∨ bI s r.p = 40 ∨ bI s r.p = 46 ∨ bI s r.p = 47 ∨ bI s r.p = 36 then none
  else if bI s r.p = 91 then classR s F r
  else if bI s r.p = 123 then (if s.size ≤ r.p + 1 ∨ digitN (bt s (r.p + 1)) = true then none else nameR s F r)
  else if bI s r.p = 92 ∨ inS (bt s r.p) specialS = true ∨ r.e ≠ 0 then none
  else some (putR (r.next 1) ⟨2, [bt s r.p].foldl withI ISet.none, [], 0, 0, ByteArray.empty⟩, r.nodes.length)
theorem atomR_c (s : ByteArray) (hs : s.size ≤ 1000000) (F : Nat) (r q : Rd) (v : Int) (g g1 : Nat) (h : atomR s F r = some (q, v)) :
    ACall Try.prog 84 [.bx 1000 g 0] (rsto g g1 s r) fun x s' => x = .int .i64 v ∧ ∃ h1, s' = rsto g h1 s q := by
  unfold atomR at h
  split at h
  · cases h
  rename_i hb
  simp only [not_or] at hb
  obtain ⟨b1, b2, b3, b4, b5, b6⟩ := hb
  have hcl := fun h => classR_c s hs F r q v g g1 (by omega) h
  have hnm := fun h => nameR_c s hs F r q v g g1 (by omega) h
  have hone := one_c s r g g1 hs (by omega)
  have e0 : (0 : Int) ≤ r.p := by omega
  have e1 : (r.p : Int) < s.size := by omega
  have e2 : (r.p : Int) + 1 = ((r.p + 1 : Nat) : Int) := by omega
  split at h
  · rename_i h91
    have hcl := hcl h
    clear hnm hone
    obtain ⟨p, ns, deep, e, wh⟩ := r
    simp only at b1 b2 b3 b4 b5 b6 h91 e0 e1 e2
    simp only [rsto] at hcl ⊢
    refine ACall.enter Try.func84 rfl (by kernel_rfl) (Nat.le_of_ble_eq_true rfl) ?_; simp only [initTm, Nat.reduceAdd]
    repeat' (first
    | refine AGood.seq ?_
    | refine AGood.skip ?_
    | refine AGood.block ?_
    | refine AGood.inBlock ?_
    | refine AGood.exit rfl ?_
    | (refine AGood.reg LL_ok [] [0, 2, 3, 4, 14, 19, 24, 40, 72, 85, 105] (by kernel_rfl) ?_; intro K hK; simp only [go_sem, Nat.reduceAdd, Nat.reduceSub, Nat.reduceMul, Nat.reduceLT, Nat.reduceLeDiff, Nat.reduceEqDiff, Nat.reduceDiv, Nat.reduceBEq, Int.reduceNeg, reduceCtorEq, ↓reduceIte, Int.reduceEq, Int.reduceLT, Int.reduceLE, Int.reduceToNat, Int.reduceAdd, Int.reduceSub, Int.reduceMul, Nat.reducePow, e0, e1, b3, h91, sbyte_bt])
    | (refine AGood.at 1 ?_; refine AGood.drawn LL_ok mixed [] 10 [0, 1, 2, 3, 4, 5, 6, 7, 8, 9] [0, 2, 3, 4, 14, 19, 24, 40, 72, 85, 105] (by kernel_rfl) (by rfl) ?_; intro K hK; simp only [List.take_succ_cons, List.take_zero, List.drop_succ_cons, List.drop_zero, List.filterMap_cons_some, List.filterMap_nil, go_sem, Nat.reduceAdd, Nat.reduceSub, Nat.reduceMul, Nat.reduceLT, Nat.reduceLeDiff, Nat.reduceEqDiff, Nat.reduceDiv, Nat.reduceBEq, Int.reduceNeg, reduceCtorEq, ↓reduceIte, Int.reduceEq, Int.reduceLT, Int.reduceLE, Int.reduceToNat, Int.reduceAdd, Int.reduceSub, Int.reduceMul, Nat.reducePow, e0, e1, b3, h91, sbyte_bt])
    | (refine AGood.at 9 ?_; refine AGood.drawn LL_ok mixed [] 30 [0, 1, 2, 3, 4, 5, 6, 7, 8, 9, 10, 11, 12, 13, 14, 15, 16, 17, 18, 19, 20, 21, 22, 23, 24, 25, 26, 27, 28, 29] [0, 2, 3, 4, 14, 19, 24, 40, 72, 85, 105] (by kernel_rfl) (by rfl) ?_; intro K hK; simp only [List.take_succ_cons, List.take_zero, List.drop_succ_cons, List.drop_zero, List.filterMap_cons_some, List.filterMap_nil, go_sem, Nat.reduceAdd, Nat.reduceSub, Nat.reduceMul, Nat.reduceLT, Nat.reduceLeDiff, Nat.reduceEqDiff, Nat.reduceDiv, Nat.reduceBEq, Int.reduceNeg, reduceCtorEq, ↓reduceIte, Int.reduceEq, Int.reduceLT, Int.reduceLE, Int.reduceToNat, Int.reduceAdd, Int.reduceSub, Int.reduceMul, Nat.reducePow, e0, e1, b3, h91, sbyte_bt])
    | ((refine ACall.mono hcl ?_; rintro _ _ ⟨rfl, h1, rfl⟩) <;> (try simp only [go_sem, Nat.reduceAdd, Nat.reduceSub, Nat.reduceMul, Nat.reduceLT, Nat.reduceLeDiff, Nat.reduceEqDiff, Nat.reduceDiv, Nat.reduceBEq, Int.reduceNeg, reduceCtorEq, ↓reduceIte, Int.reduceEq, Int.reduceLT, Int.reduceLE, Int.reduceToNat, Int.reduceAdd, Int.reduceSub, Int.reduceMul, Nat.reducePow, e0, e1, b3, h91, sbyte_bt]))
    | (refine hK _ _ ?_; clear hK K; simp only [prune, List.map_cons, List.map_nil, lk_hit, lk_miss, lk_nil, ne_eq, Nat.reduceEqDiff, not_false_eq_true])
    | (refine gd_split ?_ ?_ <;> intro hb <;> (try simp only [Bool.not_eq_true', Bool.not_eq_false', decide_eq_true_eq, decide_eq_false_iff_not, Bool.not_true, Bool.not_false, Bool.not_eq_true, Bool.not_eq_false] at hb) <;> simp only [go_sem, Nat.reduceAdd, Nat.reduceSub, Nat.reduceMul, Nat.reduceLT, Nat.reduceLeDiff, Nat.reduceEqDiff, Nat.reduceDiv, Nat.reduceBEq, Int.reduceNeg, reduceCtorEq, ↓reduceIte, Int.reduceEq, Int.reduceLT, Int.reduceLE, Int.reduceToNat, Int.reduceAdd, Int.reduceSub, Int.reduceMul, Nat.reducePow, e0, e1, b3, h91, sbyte_bt, hb])
    | (refine AGood.condT ?_ rfl ?_; focus (simp only [ev_tmp, ev_const, oc_bool, lk_hit, lk_miss, ne_eq, Nat.reduceEqDiff, not_false_eq_true]; done))
    | (refine AGood.condF ?_ rfl ?_; focus (simp only [ev_tmp, ev_const, oc_bool, lk_hit, lk_miss, ne_eq, Nat.reduceEqDiff, not_false_eq_true]; done))
    | (refine AGood.cond (by simp only [ev_tmp, ev_const, oc_bool, lk_hit, lk_miss, ne_eq, Nat.reduceEqDiff, not_false_eq_true]; rfl) rfl ?_ ?_ <;> intro hc <;> (try simp only [Bool.not_eq_true', Bool.not_eq_false', decide_eq_true_eq, decide_eq_false_iff_not, Bool.not_true, Bool.not_false, Bool.not_eq_true, Bool.not_eq_false] at hc) <;> (try simp only [hc, decide_true, decide_false, Bool.not_true, Bool.not_false]))
    | (intro _)
    | (refine And.intro ?_ ?_)
    | (refine AGood.retF LL_ok [1000, 1001] [.tmp 2] rfl ?_; simp only [sf_nil, sf_cons, go_sem, Nat.reduceAdd, Nat.reduceSub, Nat.reduceMul, Nat.reduceLT, Nat.reduceLeDiff, Nat.reduceEqDiff, Nat.reduceDiv, Nat.reduceBEq, Int.reduceNeg, reduceCtorEq, ↓reduceIte, Int.reduceEq, Int.reduceLT, Int.reduceLE, Int.reduceToNat, Int.reduceAdd, Int.reduceSub, Int.reduceMul, Nat.reducePow])
    | (refine AGood.doneF LL_ok [1000, 1001] [.tmp 2] rfl ?_; simp only [sf_nil, sf_cons, go_sem, Nat.reduceAdd, Nat.reduceSub, Nat.reduceMul, Nat.reduceLT, Nat.reduceLeDiff, Nat.reduceEqDiff, Nat.reduceDiv, Nat.reduceBEq, Int.reduceNeg, reduceCtorEq, ↓reduceIte, Int.reduceEq, Int.reduceLT, Int.reduceLE, Int.reduceToNat, Int.reduceAdd, Int.reduceSub, Int.reduceMul, Nat.reducePow]))
    all_goals first | omega | (unfold bigLen; omega) | exact ⟨_, _, ⟨rfl, rfl⟩, rfl⟩ | exact ⟨_, rfl⟩ | (rename_i hy; simp only [List.mem_singleton] at hy; subst hy; rfl) | skip
  · rename_i h91
    split at h
    · rename_i h123
      split at h
      · cases h
      rename_i hd
      simp only [not_or, Bool.not_eq_true] at hd
      have hnm := hnm h
      clear hcl hone
      obtain ⟨p, ns, deep, e, wh⟩ := r
      simp only at b1 b2 b3 b4 b5 b6 h91 h123 hd e0 e1 e2
      have e3 : ¬ (s.size : Int) ≤ (p + 1 : Nat) := by omega
      have e4 : ((p + 1 : Nat) : Int) < s.size := by omega
      have e5 : (0 : Int) ≤ (p + 1 : Nat) := by omega
      have hdg := digit4uc (bt s (p + 1))
      rw [hd.2] at hdg
      simp only [rsto] at hnm ⊢
      refine ACall.enter Try.func84 rfl (by kernel_rfl) (Nat.le_of_ble_eq_true rfl) ?_; simp only [initTm, Nat.reduceAdd]
      repeat' (first
    | refine AGood.seq ?_
    | refine AGood.skip ?_
    | refine AGood.block ?_
    | refine AGood.inBlock ?_
    | refine AGood.exit rfl ?_
    | (refine AGood.reg LL_ok [] [0, 2, 3, 4, 14, 19, 24, 40, 72, 85, 105] (by kernel_rfl) ?_; intro K hK; simp only [go_sem, Nat.reduceAdd, Nat.reduceSub, Nat.reduceMul, Nat.reduceLT, Nat.reduceLeDiff, Nat.reduceEqDiff, Nat.reduceDiv, Nat.reduceBEq, Int.reduceNeg, reduceCtorEq, ↓reduceIte, Int.reduceEq, Int.reduceLT, Int.reduceLE, Int.reduceToNat, Int.reduceAdd, Int.reduceSub, Int.reduceMul, Nat.reducePow, e0, e1, e2, e3, e4, e5, h91, h123, sbyte_bt])
    | (refine AGood.at 1 ?_; refine AGood.drawn LL_ok mixed [] 10 [0, 1, 2, 3, 4, 5, 6, 7, 8, 9] [0, 2, 3, 4, 14, 19, 24, 40, 72, 85, 105] (by kernel_rfl) (by rfl) ?_; intro K hK; simp only [List.take_succ_cons, List.take_zero, List.drop_succ_cons, List.drop_zero, List.filterMap_cons_some, List.filterMap_nil, go_sem, Nat.reduceAdd, Nat.reduceSub, Nat.reduceMul, Nat.reduceLT, Nat.reduceLeDiff, Nat.reduceEqDiff, Nat.reduceDiv, Nat.reduceBEq, Int.reduceNeg, reduceCtorEq, ↓reduceIte, Int.reduceEq, Int.reduceLT, Int.reduceLE, Int.reduceToNat, Int.reduceAdd, Int.reduceSub, Int.reduceMul, Nat.reducePow, e0, e1, e2, e3, e4, e5, h91, h123, sbyte_bt])
    | (refine AGood.at 9 ?_; refine AGood.drawn LL_ok mixed [] 30 [0, 1, 2, 3, 4, 5, 6, 7, 8, 9, 10, 11, 12, 13, 14, 15, 16, 17, 18, 19, 20, 21, 22, 23, 24, 25, 26, 27, 28, 29] [0, 2, 3, 4, 14, 19, 24, 40, 72, 85, 105] (by kernel_rfl) (by rfl) ?_; intro K hK; simp only [List.take_succ_cons, List.take_zero, List.drop_succ_cons, List.drop_zero, List.filterMap_cons_some, List.filterMap_nil, go_sem, Nat.reduceAdd, Nat.reduceSub, Nat.reduceMul, Nat.reduceLT, Nat.reduceLeDiff, Nat.reduceEqDiff, Nat.reduceDiv, Nat.reduceBEq, Int.reduceNeg, reduceCtorEq, ↓reduceIte, Int.reduceEq, Int.reduceLT, Int.reduceLE, Int.reduceToNat, Int.reduceAdd, Int.reduceSub, Int.reduceMul, Nat.reducePow, e0, e1, e2, e3, e4, e5, h91, h123, sbyte_bt])
    | ((refine ⟨_, ACall.alone hdg rfl rfl rfl, ?_⟩) <;> (try simp only [go_sem, Nat.reduceAdd, Nat.reduceSub, Nat.reduceMul, Nat.reduceLT, Nat.reduceLeDiff, Nat.reduceEqDiff, Nat.reduceDiv, Nat.reduceBEq, Int.reduceNeg, reduceCtorEq, ↓reduceIte, Int.reduceEq, Int.reduceLT, Int.reduceLE, Int.reduceToNat, Int.reduceAdd, Int.reduceSub, Int.reduceMul, Nat.reducePow, e0, e1, e2, e3, e4, e5, h91, h123, sbyte_bt]))
    | ((refine ACall.mono hnm ?_; rintro _ _ ⟨rfl, h1, rfl⟩) <;> (try simp only [go_sem, Nat.reduceAdd, Nat.reduceSub, Nat.reduceMul, Nat.reduceLT, Nat.reduceLeDiff, Nat.reduceEqDiff, Nat.reduceDiv, Nat.reduceBEq, Int.reduceNeg, reduceCtorEq, ↓reduceIte, Int.reduceEq, Int.reduceLT, Int.reduceLE, Int.reduceToNat, Int.reduceAdd, Int.reduceSub, Int.reduceMul, Nat.reducePow, e0, e1, e2, e3, e4, e5, h91, h123, sbyte_bt]))
    | (refine hK _ _ ?_; clear hK K; simp only [prune, List.map_cons, List.map_nil, lk_hit, lk_miss, lk_nil, ne_eq, Nat.reduceEqDiff, not_false_eq_true])
    | (refine gd_split ?_ ?_ <;> intro hb <;> (try simp only [Bool.not_eq_true', Bool.not_eq_false', decide_eq_true_eq, decide_eq_false_iff_not, Bool.not_true, Bool.not_false, Bool.not_eq_true, Bool.not_eq_false] at hb) <;> simp only [go_sem, Nat.reduceAdd, Nat.reduceSub, Nat.reduceMul, Nat.reduceLT, Nat.reduceLeDiff, Nat.reduceEqDiff, Nat.reduceDiv, Nat.reduceBEq, Int.reduceNeg, reduceCtorEq, ↓reduceIte, Int.reduceEq, Int.reduceLT, Int.reduceLE, Int.reduceToNat, Int.reduceAdd, Int.reduceSub, Int.reduceMul, Nat.reducePow, e0, e1, e2, e3, e4, e5, h91, h123, sbyte_bt, hb])
    | (refine AGood.condT ?_ rfl ?_; focus (simp only [ev_tmp, ev_const, oc_bool, lk_hit, lk_miss, ne_eq, Nat.reduceEqDiff, not_false_eq_true]; done))
    | (refine AGood.condF ?_ rfl ?_; focus (simp only [ev_tmp, ev_const, oc_bool, lk_hit, lk_miss, ne_eq, Nat.reduceEqDiff, not_false_eq_true]; done))
    | (refine AGood.cond (by simp only [ev_tmp, ev_const, oc_bool, lk_hit, lk_miss, ne_eq, Nat.reduceEqDiff, not_false_eq_true]; rfl) rfl ?_ ?_ <;> intro hc <;> (try simp only [Bool.not_eq_true', Bool.not_eq_false', decide_eq_true_eq, decide_eq_false_iff_not, Bool.not_true, Bool.not_false, Bool.not_eq_true, Bool.not_eq_false] at hc) <;> (try simp only [hc, decide_true, decide_false, Bool.not_true, Bool.not_false]))
    | (intro _)
    | (refine And.intro ?_ ?_)
    | (refine AGood.retF LL_ok [1000, 1001] [.tmp 2] rfl ?_; simp only [sf_nil, sf_cons, go_sem, Nat.reduceAdd, Nat.reduceSub, Nat.reduceMul, Nat.reduceLT, Nat.reduceLeDiff, Nat.reduceEqDiff, Nat.reduceDiv, Nat.reduceBEq, Int.reduceNeg, reduceCtorEq, ↓reduceIte, Int.reduceEq, Int.reduceLT, Int.reduceLE, Int.reduceToNat, Int.reduceAdd, Int.reduceSub, Int.reduceMul, Nat.reducePow])
    | (refine AGood.doneF LL_ok [1000, 1001] [.tmp 2] rfl ?_; simp only [sf_nil, sf_cons, go_sem, Nat.reduceAdd, Nat.reduceSub, Nat.reduceMul, Nat.reduceLT, Nat.reduceLeDiff, Nat.reduceEqDiff, Nat.reduceDiv, Nat.reduceBEq, Int.reduceNeg, reduceCtorEq, ↓reduceIte, Int.reduceEq, Int.reduceLT, Int.reduceLE, Int.reduceToNat, Int.reduceAdd, Int.reduceSub, Int.reduceMul, Nat.reducePow]))
      all_goals first | omega | (unfold bigLen; omega) | exact ⟨_, _, ⟨rfl, rfl⟩, rfl⟩ | exact ⟨_, rfl⟩ | (rename_i hy; simp only [List.mem_singleton] at hy; subst hy; rfl) | skip
    · rename_i h123
      split at h
      · cases h
      rename_i hx
      simp only [not_or, Bool.not_eq_true, ne_eq, Decidable.not_not] at hx
      obtain ⟨h92, hsp, he0⟩ := hx
      simp only [Option.some.injEq, Prod.mk.injEq] at h
      obtain ⟨rfl, rfl⟩ := h
      have ho : oneS s r = (r.next 1, bI s r.p) := by rw [oneS, if_pos h92]
      rw [ho] at hone
      have hin := in4uc (bt s r.p) specialS (by decide)
      rw [hsp] at hin
      clear hcl hnm ho
      obtain ⟨p, ns, deep, e, wh⟩ := r
      simp only at b1 b2 b3 b4 b5 b6 h91 h123 h92 he0 e0 e1 e2 hin
      subst he0
      have hof := of_c true false [bt s p] (fun x hx => by simp only [List.mem_singleton] at hx; subst hx; exact bt_le _ _) (by simp)
      simp only [bytesL, List.map_cons, List.map_nil] at hof
      rcases hset : [bt s p].foldl withI ISet.none with ⟨u0, u1, u2, u3⟩
      rw [hset] at hof
      have hput := putR_c s ⟨p + 1, ns, deep, 0, wh⟩ g g1 ⟨2, ⟨u0, u1, u2, u3⟩, [], 0, 0, ByteArray.empty⟩ true (by simp only; omega)
      simp only [rsto, Rd.next, Node.cellsF] at hone hput ⊢
      refine ACall.enter Try.func84 rfl (by kernel_rfl) (Nat.le_of_ble_eq_true rfl) ?_; simp only [initTm, Nat.reduceAdd]
      repeat' (first
    | refine AGood.seq ?_
    | refine AGood.skip ?_
    | refine AGood.block ?_
    | refine AGood.inBlock ?_
    | refine AGood.exit rfl ?_
    | (refine AGood.reg LL_ok [108] [0, 2, 3, 4, 14, 19, 24, 40, 72, 85, 105] (by kernel_rfl) ?_; intro K hK; simp only [go_sem, Nat.reduceAdd, Nat.reduceSub, Nat.reduceMul, Nat.reduceLT, Nat.reduceLeDiff, Nat.reduceEqDiff, Nat.reduceDiv, Nat.reduceBEq, Int.reduceNeg, reduceCtorEq, ↓reduceIte, Int.reduceEq, Int.reduceLT, Int.reduceLE, Int.reduceToNat, Int.reduceAdd, Int.reduceSub, Int.reduceMul, Nat.reducePow, e0, e1, e2, b3, b4, b5, b6, h91, h92, h123, sbyte_bt, ISet.cells, ba_empty])
    | (refine AGood.at 1 ?_; refine AGood.drawn LL_ok mixed [108] 10 [0, 1, 2, 3, 4, 5, 6, 7, 8, 9] [0, 2, 3, 4, 14, 19, 24, 40, 72, 85, 105] (by kernel_rfl) (by rfl) ?_; intro K hK; simp only [List.take_succ_cons, List.take_zero, List.drop_succ_cons, List.drop_zero, List.filterMap_cons_some, List.filterMap_nil, go_sem, Nat.reduceAdd, Nat.reduceSub, Nat.reduceMul, Nat.reduceLT, Nat.reduceLeDiff, Nat.reduceEqDiff, Nat.reduceDiv, Nat.reduceBEq, Int.reduceNeg, reduceCtorEq, ↓reduceIte, Int.reduceEq, Int.reduceLT, Int.reduceLE, Int.reduceToNat, Int.reduceAdd, Int.reduceSub, Int.reduceMul, Nat.reducePow, e0, e1, e2, b3, b4, b5, b6, h91, h92, h123, sbyte_bt, ISet.cells, ba_empty])
    | (refine AGood.at 9 ?_; refine AGood.drawn LL_ok mixed [108] 30 [0, 1, 2, 3, 4, 5, 6, 7, 8, 9, 10, 11, 12, 13, 14, 15, 16, 17, 18, 19, 20, 21, 22, 23, 24, 25, 26, 27, 28, 29] [0, 2, 3, 4, 14, 19, 24, 40, 72, 85, 105] (by kernel_rfl) (by rfl) ?_; intro K hK; simp only [List.take_succ_cons, List.take_zero, List.drop_succ_cons, List.drop_zero, List.filterMap_cons_some, List.filterMap_nil, go_sem, Nat.reduceAdd, Nat.reduceSub, Nat.reduceMul, Nat.reduceLT, Nat.reduceLeDiff, Nat.reduceEqDiff, Nat.reduceDiv, Nat.reduceBEq, Int.reduceNeg, reduceCtorEq, ↓reduceIte, Int.reduceEq, Int.reduceLT, Int.reduceLE, Int.reduceToNat, Int.reduceAdd, Int.reduceSub, Int.reduceMul, Nat.reducePow, e0, e1, e2, b3, b4, b5, b6, h91, h92, h123, sbyte_bt, ISet.cells, ba_empty])
    | ((refine ACall.mono hone ?_; rintro _ _ ⟨rfl, rfl⟩) <;> (try simp only [go_sem, Nat.reduceAdd, Nat.reduceSub, Nat.reduceMul, Nat.reduceLT, Nat.reduceLeDiff, Nat.reduceEqDiff, Nat.reduceDiv, Nat.reduceBEq, Int.reduceNeg, reduceCtorEq, ↓reduceIte, Int.reduceEq, Int.reduceLT, Int.reduceLE, Int.reduceToNat, Int.reduceAdd, Int.reduceSub, Int.reduceMul, Nat.reducePow, e0, e1, e2, b3, b4, b5, b6, h91, h92, h123, sbyte_bt, ISet.cells, ba_empty]))
    | ((refine ACall.mono (ACall.alone hin rfl rfl rfl) ?_; rintro _ _ ⟨rfl, rfl⟩) <;> (try simp only [go_sem, Nat.reduceAdd, Nat.reduceSub, Nat.reduceMul, Nat.reduceLT, Nat.reduceLeDiff, Nat.reduceEqDiff, Nat.reduceDiv, Nat.reduceBEq, Int.reduceNeg, reduceCtorEq, ↓reduceIte, Int.reduceEq, Int.reduceLT, Int.reduceLE, Int.reduceToNat, Int.reduceAdd, Int.reduceSub, Int.reduceMul, Nat.reducePow, e0, e1, e2, b3, b4, b5, b6, h91, h92, h123, sbyte_bt, ISet.cells, ba_empty]))
    | ((refine ACall.mono (ACall.alone special4uc rfl rfl rfl) ?_; rintro _ _ ⟨rfl, rfl⟩) <;> (try simp only [go_sem, Nat.reduceAdd, Nat.reduceSub, Nat.reduceMul, Nat.reduceLT, Nat.reduceLeDiff, Nat.reduceEqDiff, Nat.reduceDiv, Nat.reduceBEq, Int.reduceNeg, reduceCtorEq, ↓reduceIte, Int.reduceEq, Int.reduceLT, Int.reduceLE, Int.reduceToNat, Int.reduceAdd, Int.reduceSub, Int.reduceMul, Nat.reducePow, e0, e1, e2, b3, b4, b5, b6, h91, h92, h123, sbyte_bt, ISet.cells, ba_empty]))
    | ((refine ACall.mono (ACall.alone hof rfl rfl rfl) ?_; rintro _ _ ⟨rfl, rfl⟩) <;> (try simp only [go_sem, Nat.reduceAdd, Nat.reduceSub, Nat.reduceMul, Nat.reduceLT, Nat.reduceLeDiff, Nat.reduceEqDiff, Nat.reduceDiv, Nat.reduceBEq, Int.reduceNeg, reduceCtorEq, ↓reduceIte, Int.reduceEq, Int.reduceLT, Int.reduceLE, Int.reduceToNat, Int.reduceAdd, Int.reduceSub, Int.reduceMul, Nat.reducePow, e0, e1, e2, b3, b4, b5, b6, h91, h92, h123, sbyte_bt, ISet.cells, ba_empty]))
    | ((refine ACall.mono hput ?_; rintro _ _ ⟨rfl, h1, rfl⟩) <;> (try simp only [go_sem, Nat.reduceAdd, Nat.reduceSub, Nat.reduceMul, Nat.reduceLT, Nat.reduceLeDiff, Nat.reduceEqDiff, Nat.reduceDiv, Nat.reduceBEq, Int.reduceNeg, reduceCtorEq, ↓reduceIte, Int.reduceEq, Int.reduceLT, Int.reduceLE, Int.reduceToNat, Int.reduceAdd, Int.reduceSub, Int.reduceMul, Nat.reducePow, e0, e1, e2, b3, b4, b5, b6, h91, h92, h123, sbyte_bt, ISet.cells, ba_empty]))
    | (refine hK _ _ ?_; clear hK K; simp only [prune, List.map_cons, List.map_nil, lk_hit, lk_miss, lk_nil, ne_eq, Nat.reduceEqDiff, not_false_eq_true])
    | (refine gd_split ?_ ?_ <;> intro hb <;> (try simp only [Bool.not_eq_true', Bool.not_eq_false', decide_eq_true_eq, decide_eq_false_iff_not, Bool.not_true, Bool.not_false, Bool.not_eq_true, Bool.not_eq_false] at hb) <;> simp only [go_sem, Nat.reduceAdd, Nat.reduceSub, Nat.reduceMul, Nat.reduceLT, Nat.reduceLeDiff, Nat.reduceEqDiff, Nat.reduceDiv, Nat.reduceBEq, Int.reduceNeg, reduceCtorEq, ↓reduceIte, Int.reduceEq, Int.reduceLT, Int.reduceLE, Int.reduceToNat, Int.reduceAdd, Int.reduceSub, Int.reduceMul, Nat.reducePow, e0, e1, e2, b3, b4, b5, b6, h91, h92, h123, sbyte_bt, ISet.cells, ba_empty, hb])
    | (refine AGood.condT ?_ rfl ?_; focus (simp only [ev_tmp, ev_const, oc_bool, lk_hit, lk_miss, ne_eq, Nat.reduceEqDiff, not_false_eq_true]; done))
    | (refine AGood.condF ?_ rfl ?_; focus (simp only [ev_tmp, ev_const, oc_bool, lk_hit, lk_miss, ne_eq, Nat.reduceEqDiff, not_false_eq_true]; done))
    | (refine AGood.cond (by simp only [ev_tmp, ev_const, oc_bool, lk_hit, lk_miss, ne_eq, Nat.reduceEqDiff, not_false_eq_true]; rfl) rfl ?_ ?_ <;> intro hc <;> (try simp only [Bool.not_eq_true', Bool.not_eq_false', decide_eq_true_eq, decide_eq_false_iff_not, Bool.not_true, Bool.not_false, Bool.not_eq_true, Bool.not_eq_false] at hc) <;> (try simp only [hc, decide_true, decide_false, Bool.not_true, Bool.not_false]))
    | (intro _)
    | (refine And.intro ?_ ?_)
    | (refine AGood.retF LL_ok [1000, 1001] [.tmp 2] rfl ?_; simp only [sf_nil, sf_cons, go_sem, Nat.reduceAdd, Nat.reduceSub, Nat.reduceMul, Nat.reduceLT, Nat.reduceLeDiff, Nat.reduceEqDiff, Nat.reduceDiv, Nat.reduceBEq, Int.reduceNeg, reduceCtorEq, ↓reduceIte, Int.reduceEq, Int.reduceLT, Int.reduceLE, Int.reduceToNat, Int.reduceAdd, Int.reduceSub, Int.reduceMul, Nat.reducePow])
    | (refine AGood.doneF LL_ok [1000, 1001] [.tmp 2] rfl ?_; simp only [sf_nil, sf_cons, go_sem, Nat.reduceAdd, Nat.reduceSub, Nat.reduceMul, Nat.reduceLT, Nat.reduceLeDiff, Nat.reduceEqDiff, Nat.reduceDiv, Nat.reduceBEq, Int.reduceNeg, reduceCtorEq, ↓reduceIte, Int.reduceEq, Int.reduceLT, Int.reduceLE, Int.reduceToNat, Int.reduceAdd, Int.reduceSub, Int.reduceMul, Nat.reducePow]))
      all_goals first | omega | (unfold bigLen; omega) | exact ⟨_, _, ⟨rfl, rfl⟩, rfl⟩ | exact ⟨_, rfl⟩ | (rename_i hy; simp only [List.mem_singleton] at hy; subst hy; rfl) | skip
end Go.Rad
