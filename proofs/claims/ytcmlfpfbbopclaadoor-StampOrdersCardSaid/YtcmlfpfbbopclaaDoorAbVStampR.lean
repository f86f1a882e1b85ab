/- footlockerref17 over the machine of values. -/
import Derived.Test.YtcmlfpfbbopclaaDoorProg
import Derived.Test.YtcmlfpfbbopclaaDoorAbV12
import Derived.Test.YtcmlfpfbbopclaaDoorAbFacts
import Derived.Test.YtcmlfpfbbopclaaDoorAbVG
import Derived.Test.YtcmlfpfbbopclaaDoorAbVStamp
import Derived.Test.YtcmlfpfbbopclaaDoorAbVStamp2
import Derived.KernelRfl
import Derived.Laws.BitsAllLaws
set_option linter.unusedVariables false
set_option linter.unusedSimpArgs false
set_option maxRecDepth 100000
set_option maxHeartbeats 4000000
namespace Go.Proofs.YtcmlfpfbbopclaaDoor.VStampR
open Go.RowKit Go.Proofs.AbM Go.Proofs.YtcmlfpfbbopclaaDoor.Facts Go.Proofs.YtcmlfpfbbopclaaDoor.VG Go.Proofs.YtcmlfpfbbopclaaDoor.VStamp Go.Proofs.YtcmlfpfbbopclaaDoor.VStamp2
attribute [local go_sem] vawp_skip_eq vawp_seq_eq vawp_region_eq vawp_cond_g vawp_block_eq vawp_exit_eq vawp_ret_eq thenV_ret thenV_exit thenV_normal inBlockV_normal inBlockV_ret inBlockV_exit resKV_nil resKV_tmp resKV_cell oneV_one oneV_nil oneV_more initV_nil initV_cons updV_at evv_tmp evv_func evv_global evv_int evv_bool evv_str evv_snil evv_pnil evv_agg ofV3_int ofV3_bool ofV3_str ofV3_snil ofV3_pnil vok_tmp vok_func vok_global vok_int vok_bool vok_str vok_snil vok_pnil vok_agg cloV3_int cloV3_bool cloV3_str cloV3_snil cloV3_pnil voks_nil voks_cons scV_int scV_bool scV_str isBlV_b isBV_t isBV_f lwV_none lwV_sc lwV_agg lwV_tup lwV_isl lwV_own lwV_op lwV_ip lwV_fn lwV_junk vops_nil vops_n vops_s gsN_eq vop dstOk_some dstOk_none pkV_b blkV_set eRead_f eRead_t vLoad_op vLoad_ip vStore_op cells_sc cells_isl cells_own cells_op cells_ip cells_fn cells_agg parts_sc parts_isl parts_own parts_op parts_ip parts_fn parts_agg one_sc one_isl one_own one_op one_ip one_fn vField_op vField_ip ePart_f ePart_t vFieldV_agg vIx_isl vIx_own vIx_op vIx_ip vIxV_agg vIxV_str vLen_str vLen_isl vLen_own vLen_agg bndE_none bndE_int vSlice_isl vSlice_str vBin_add vBin_sub vBin_mul vBin_quo vBin_rem vBin_and vBin_or vBin_xor vBin_andNot vBin_eql vBin_neq vBin_lss vBin_leq vBin_gtr vBin_geq vBin_shr_i8 vBin_shl_i8 vBin_shr_i16 vBin_shl_i16 vBin_shr_i32 vBin_shl_i32 vBin_shr_i64 vBin_shl_i64 vBin_shr_u8 vBin_shl_u8 vBin_shr_u16 vBin_shl_u16 vBin_shr_u32 vBin_shl_u32 vBin_shr_u64 vBin_shl_u64 vBin_seq vBin_sne vBin_isln vBin_opn vBin_ipn ex_sc ex_sc2 ex_sc3 ex_tup calleeV wSc_pb wSc_pi wSc_not wSc_neg wSc_com wSc_min2 wSc_max2 vfold_nil vfold_one vfold_cons vfill_nil vfill_e eFill_s vBuild vBox vAlloc setV_map setV_zs setV_zn setV_s hset_hset eConv_ss vConv_e iv_eq ivI_eq ex_get ex_getI set_iv set_ivI okNil isNilV isSlV hdel_at hset_at List.map_toArray List.map_cons List.map_nil List.nil_append List.cons_append List.append_nil List.toList_toArray List.getElem?_toArray List.getElem_toArray List.getElem_cons_zero List.getElem_cons_succ List.getElem?_cons_zero List.getElem?_cons_succ List.set_cons_zero List.set_cons_succ List.set_set List.length_cons List.length_nil List.length_set List.length_map List.all_cons List.all_nil List.drop_zero List.drop_succ_cons List.take_succ_cons List.take_zero List.flatMap_cons Bool.and_eq_true true_and and_true if_true if_false ite_true ite_false forall_eq' forall_eq exists_eq_left exists_eq_left' exists_eq' Value.bool.injEq Value.int.injEq Value.string.injEq Value.pointer.injEq Option.some.injEq AV.sc.injEq AV.op.injEq AV.ip.injEq AV.own.injEq AV.agg.injEq VB.cells.injEq VB.iter.injEq Prod.mk.injEq decide_eq_true_eq decide_eq_false_iff_not Nat.reduceEqDiff Nat.reduceLT Nat.reduceLeDiff Nat.reduceSub Nat.reduceBEq reduceIte Int.reduceLE Int.reduceLT Int.reduceToNat Int.reduceNeg Int.reduceEq Int.reduceNe Int.cast_ofNat_Int Nat.reduceMul Nat.reduceAdd Nat.reduceDiv Nat.reduceMod Nat.reducePow Int.reduceSub Int.reduceAdd Int.reduceMul Int.reducePow Option.isSome_some Option.isSome_none Option.bind_some Option.map_some Option.map_none Option.toList_some Option.toList_none true_or or_true or_false false_or Bool.not_true Bool.not_false Bool.not_eq_true Bool.false_eq_true Bool.not_not false_implies true_implies implies_true Nat.zero_add Nat.add_zero Nat.mul_one Bool.not_eq_true' Bool.true_eq_false Bool.and_true Bool.true_and Bool.and_false Bool.false_and Bool.or_true Bool.true_or Bool.or_false Bool.false_or Option.isNone_some Option.isNone_none Int.reduceBEq Int.reduceBNe beq_self_eq_true bne_self_eq_false beq_iff_eq not_false_eq_true not_true_eq_false Decidable.not_not bne_iff_ne ne_eq Int.toNat_natCast gt_lt ge_le c_add c_mul c_sub c_addn c_nadd c_muln c_nmul c_subn c_nsub c_divn c_modn c_div c_mod c_tdivn c_tmodn c_tdiv c_tmod c_pow c_nn c_beq c_beqn c_bne c_bnen wr64 wr32 wru64 wru32 wru16 wru8 c_if c_if1 c_if2 c_lt c_le c_eq c_ltn c_len c_nlt c_nle c_eqn m_drop m_take Nat.add_sub_cancel_left Nat.add_sub_cancel Int.reduceTMod Int.reduceTDiv Int.reduceMod Int.reduceDiv isC_some hset_ne hdel_ne hdel_hset hdel_hset_ne blkV_nset blkV_ndel hset_hdel gV_t gV_f isGdV_b isGdV_u isBV_u isGdV_g isBV_gt isBV_gf decide_true decide_false Bool.or_eq_false_iff eq_self Nat.lt_irrefl Int.lt_irrefl Nat.le_refl Int.le_refl
attribute [local go_sem high] vops_pk vops_mv vops_as vops_smv pk_and pk_or pk_gand pk_gor pk_orn pk_gorn
attribute [local go_sem] ag3 sz3 zc3 ik3 ag4 sz4 zc4 ag23 sz23 zc23 eqs23 nes23 bo23 ag24 sz24 zc24 ik24 ag27 sz27 zc27 ik27 ag44 sz44 ea44 an44 zc44 bo44 ag46 sz46 el46 zc46 is46 of23_0 fd23_0 of23_1 fd23_1 of23_2 fd23_2 of23_3 fd23_3 of23_4 fd23_4 of23_5 fd23_5 eqb neb
section
variable {n : Nat} {h : VH} {K : AV → VH → Prop}
attribute [local go_sem] sC
theorem daysR_v {y m : Int} (hK : K (.sc (.int .i64 (daysI y m))) h) : VC Tryd.prog GL (n + 1) 15 [(.sc (.int .i64 (y))), (.sc (.int .i64 (m)))] h K := by
  refine VC_go Tryd.func15 rfl (by decide) Tryd.ntmps15 Tryd.results15 rfl fun Q hq hn => ?_
  unfold daysI at hK
  repeat (first | (simp (maxSteps := 1000000) only [↓reduceIte, go_sem]) | (simp (maxSteps := 1000000) (disch := first | omega | assumption) only [BB]) | with_reducible refine vawp_draw mixed (by kernel_rfl) ?_ | with_reducible first | refine lwV_out ?_ | refine lwV_out0 ?_ | refine lkC_out ?_ | refine And.intro (by omega) ?_ | fail)
  first | (with_reducible refine Gst.now ?_) | (with_reducible refine lkC_out ?_; simp only [vawp_skip_eq, thenV_normal]; with_reducible refine Gst.now ?_) | (with_reducible refine lkC_out ?_)
  try simp only [vawp_seq_eq, vawp_block_eq]
  with_reducible refine vawp_regq ?_
  simp only [List.toList_toArray]
  repeat (first | (apply vopsQ_pk; (case hd => rfl); (case h1 => simp (disch := first | omega | assumption) only [↓reduceIte, go_sem]); (case h2 => simp (disch := first | omega | assumption) only [↓reduceIte, go_sem]); (case h3 => simp (disch := first | omega | assumption) only [↓reduceIte, go_sem]); (case hb => simp (disch := first | omega | assumption) only [↓reduceIte, go_sem]); (try simp (disch := first | omega | assumption) only [↓reduceIte, go_sem])) | (apply vopsQ_n; (case hd => rfl); (case hq => (intro K' hk'; repeat (first | simp (maxSteps := 4000000) (disch := first | omega | assumption) only [↓reduceIte, go_sem] | with_reducible refine Gst.now ?_ | with_reducible refine vawp_draw mixed (by kernel_rfl) ?_ | with_reducible first | refine lwV_out ?_ | refine lwV_out0 ?_ | refine lkC_out ?_ | refine And.intro (by omega) ?_ | fail); exact hk'))) | (apply vopsQ_gt; (case hd => rfl); (case h1 => rfl); (case h2 => rfl); (case h3 => simp (disch := first | omega | assumption) only [↓reduceIte, go_sem]); (case hq => (intro K' hk'; repeat (first | simp (maxSteps := 4000000) (disch := first | omega | assumption) only [↓reduceIte, go_sem] | with_reducible refine Gst.now ?_ | with_reducible refine vawp_draw mixed (by kernel_rfl) ?_ | with_reducible first | refine lwV_out ?_ | refine lwV_out0 ?_ | refine lkC_out ?_ | refine And.intro (by omega) ?_ | fail); exact hk'))) | (apply vopsQ_gf'; (case hd => rfl); (case h1 => rfl); (case h2 => rfl); (case h3 => simp (disch := first | omega | assumption) only [↓reduceIte, go_sem])) | (apply vopsQ_gj; (case hd => rfl); (case h1 => rfl); (case h2 => rfl); (case h3 => simp (disch := first | omega | assumption) only [↓reduceIte, go_sem])) | (apply vopsQ_gpk; (case hd => rfl); (case h1 => rfl); (case h2 => rfl); (case h3 => simp (disch := first | omega | assumption) only [↓reduceIte, go_sem]); (case k1 => simp (disch := first | omega | assumption) only [↓reduceIte, go_sem]); (case k2 => simp (disch := first | omega | assumption) only [↓reduceIte, go_sem]); (case k3 => simp (disch := first | omega | assumption) only [↓reduceIte, go_sem]); (case hb => (intro hc; (try simp (disch := first | omega | assumption) only [↓reduceIte, go_sem] at hc); simp (disch := first | omega | assumption) only [↓reduceIte, go_sem, hc])); (try simp (disch := first | omega | assumption) only [↓reduceIte, go_sem])) | (apply vopsQ_gu; (case hd => rfl); (case h1 => rfl); (case h2 => rfl); (case h3 => simp (disch := first | omega | assumption) only [↓reduceIte, go_sem]); (case hq => (intro hc K' hk'; (try simp (disch := first | omega | assumption) only [↓reduceIte, go_sem] at hc); repeat (first | simp (maxSteps := 4000000) (disch := first | omega | assumption) only [↓reduceIte, go_sem, hc] | with_reducible refine Gst.now ?_ | with_reducible refine vawp_draw mixed (by kernel_rfl) ?_ | with_reducible first | refine lwV_out ?_ | refine lwV_out0 ?_ | refine lkC_out ?_ | refine And.intro (by omega) ?_ | fail); exact hk')); (try simp (disch := first | omega | assumption) only [↓reduceIte, go_sem])) | fail)
  simp only [vopsQ_nil]
  repeat (first | (simp (maxSteps := 1000000) only [↓reduceIte, go_sem]) | (simp (maxSteps := 1000000) (disch := first | omega | assumption) only [BB]) | with_reducible refine vawp_draw mixed (by kernel_rfl) ?_ | with_reducible first | refine lwV_out ?_ | refine lwV_out0 ?_ | refine lkC_out ?_ | refine And.intro (by omega) ?_ | fail)
  first | (with_reducible refine Gst.now ?_) | (with_reducible refine lkC_out ?_; simp only [vawp_skip_eq, thenV_normal]; with_reducible refine Gst.now ?_) | (with_reducible refine lkC_out ?_)
  repeat (first | (simp (maxSteps := 1000000) only [↓reduceIte, go_sem]) | (simp (maxSteps := 1000000) (disch := first | omega | assumption) only [BB]) | with_reducible refine vawp_draw mixed (by kernel_rfl) ?_ | with_reducible first | refine lwV_out ?_ | refine lwV_out0 ?_ | refine lkC_out ?_ | refine And.intro (by omega) ?_ | fail)
  split
  · rename_i hc
    rw [if_pos (by simpa using hc)] at hK
    repeat (first | (simp (maxSteps := 1000000) only [↓reduceIte, go_sem]) | (simp (maxSteps := 1000000) (disch := first | omega | assumption) only [BB]) | with_reducible refine Gst.now ?_ | with_reducible refine vawp_draw mixed (by kernel_rfl) ?_ | with_reducible first | refine lwV_out ?_ | refine lwV_out0 ?_ | refine lkC_out ?_ | refine And.intro (by omega) ?_ | fail)
    refine hq _ _ ?_
    repeat (first | (simp (maxSteps := 1000000) only [↓reduceIte, go_sem]) | (simp (maxSteps := 1000000) (disch := first | omega | assumption) only [BB]) | with_reducible refine Gst.now ?_ | with_reducible refine vawp_draw mixed (by kernel_rfl) ?_ | with_reducible first | refine lwV_out ?_ | refine lwV_out0 ?_ | refine lkC_out ?_ | refine And.intro (by omega) ?_ | fail)
    exact .now hK
  · rename_i hc
    rw [if_neg (by simpa using hc)] at hK
    have hm : ¬ m < 1 ∧ ¬ 12 < m := by simpa using hc
    repeat (first | (simp (maxSteps := 1000000) only [↓reduceIte, go_sem]) | (simp (maxSteps := 1000000) (disch := first | omega | assumption) only [BB]) | with_reducible refine vawp_draw mixed (by kernel_rfl) ?_ | with_reducible first | refine lwV_out ?_ | refine lwV_out0 ?_ | refine lkC_out ?_ | refine And.intro (by omega) ?_ | fail)
    first | (with_reducible refine Gst.now ?_) | (with_reducible refine lkC_out ?_; simp only [vawp_skip_eq, thenV_normal]; with_reducible refine Gst.now ?_) | (with_reducible refine lkC_out ?_)
    repeat (first | (simp (maxSteps := 1000000) only [↓reduceIte, go_sem]) | (simp (maxSteps := 1000000) (disch := first | omega | assumption) only [BB]) | with_reducible refine vawp_draw mixed (by kernel_rfl) ?_ | with_reducible first | refine lwV_out ?_ | refine lwV_out0 ?_ | refine lkC_out ?_ | refine And.intro (by omega) ?_ | fail)
    first | (with_reducible refine Gst.now ?_) | (with_reducible refine lkC_out ?_; simp only [vawp_skip_eq, thenV_normal]; with_reducible refine Gst.now ?_) | (with_reducible refine lkC_out ?_)
    repeat (first | (simp (maxSteps := 1000000) only [↓reduceIte, go_sem]) | (simp (maxSteps := 1000000) (disch := first | omega | assumption) only [BB]) | with_reducible refine vawp_draw mixed (by kernel_rfl) ?_ | with_reducible first | refine lwV_out ?_ | refine lwV_out0 ?_ | refine lkC_out ?_ | refine And.intro (by omega) ?_ | fail)
    split
    · rename_i hc2
      have h2 : m = 2 := by simpa using hc2
      subst h2
      first | (with_reducible refine Gst.now ?_) | (with_reducible refine lkC_out ?_; simp only [vawp_skip_eq, thenV_normal]; with_reducible refine Gst.now ?_) | (with_reducible refine lkC_out ?_)
      try simp only [vawp_seq_eq, vawp_block_eq]
      with_reducible refine vawp_regq ?_
      simp only [List.toList_toArray]
      repeat (first | (apply vopsQ_pk; (case hd => rfl); (case h1 => simp (disch := first | omega | assumption) only [↓reduceIte, go_sem]); (case h2 => simp (disch := first | omega | assumption) only [↓reduceIte, go_sem]); (case h3 => simp (disch := first | omega | assumption) only [↓reduceIte, go_sem]); (case hb => simp (disch := first | omega | assumption) only [↓reduceIte, go_sem]); (try simp (disch := first | omega | assumption) only [↓reduceIte, go_sem])) | (apply vopsQ_n; (case hd => rfl); (case hq => (intro K' hk'; repeat (first | simp (maxSteps := 4000000) (disch := first | omega | assumption) only [↓reduceIte, go_sem] | with_reducible refine Gst.now ?_ | with_reducible refine vawp_draw mixed (by kernel_rfl) ?_ | with_reducible first | refine lwV_out ?_ | refine lwV_out0 ?_ | refine lkC_out ?_ | refine And.intro (by omega) ?_ | fail); exact hk'))) | (apply vopsQ_gt; (case hd => rfl); (case h1 => rfl); (case h2 => rfl); (case h3 => simp (disch := first | omega | assumption) only [↓reduceIte, go_sem]); (case hq => (intro K' hk'; repeat (first | simp (maxSteps := 4000000) (disch := first | omega | assumption) only [↓reduceIte, go_sem] | with_reducible refine Gst.now ?_ | with_reducible refine vawp_draw mixed (by kernel_rfl) ?_ | with_reducible first | refine lwV_out ?_ | refine lwV_out0 ?_ | refine lkC_out ?_ | refine And.intro (by omega) ?_ | fail); exact hk'))) | (apply vopsQ_gf'; (case hd => rfl); (case h1 => rfl); (case h2 => rfl); (case h3 => simp (disch := first | omega | assumption) only [↓reduceIte, go_sem])) | (apply vopsQ_gj; (case hd => rfl); (case h1 => rfl); (case h2 => rfl); (case h3 => simp (disch := first | omega | assumption) only [↓reduceIte, go_sem])) | (apply vopsQ_gpk; (case hd => rfl); (case h1 => rfl); (case h2 => rfl); (case h3 => simp (disch := first | omega | assumption) only [↓reduceIte, go_sem]); (case k1 => simp (disch := first | omega | assumption) only [↓reduceIte, go_sem]); (case k2 => simp (disch := first | omega | assumption) only [↓reduceIte, go_sem]); (case k3 => simp (disch := first | omega | assumption) only [↓reduceIte, go_sem]); (case hb => (intro hc; (try simp (disch := first | omega | assumption) only [↓reduceIte, go_sem] at hc); simp (disch := first | omega | assumption) only [↓reduceIte, go_sem, hc])); (try simp (disch := first | omega | assumption) only [↓reduceIte, go_sem])) | (apply vopsQ_gu; (case hd => rfl); (case h1 => rfl); (case h2 => rfl); (case h3 => simp (disch := first | omega | assumption) only [↓reduceIte, go_sem]); (case hq => (intro hc K' hk'; (try simp (disch := first | omega | assumption) only [↓reduceIte, go_sem] at hc); repeat (first | simp (maxSteps := 4000000) (disch := first | omega | assumption) only [↓reduceIte, go_sem, hc] | with_reducible refine Gst.now ?_ | with_reducible refine vawp_draw mixed (by kernel_rfl) ?_ | with_reducible first | refine lwV_out ?_ | refine lwV_out0 ?_ | refine lkC_out ?_ | refine And.intro (by omega) ?_ | fail); exact hk')); (try simp (disch := first | omega | assumption) only [↓reduceIte, go_sem])) | fail)
      simp only [vopsQ_nil]
      repeat (first | (simp (maxSteps := 1000000) only [↓reduceIte, go_sem]) | (simp (maxSteps := 1000000) (disch := first | omega | assumption) only [BB]) | with_reducible refine vawp_draw mixed (by kernel_rfl) ?_ | with_reducible first | refine lwV_out ?_ | refine lwV_out0 ?_ | refine lkC_out ?_ | refine And.intro (by omega) ?_ | fail)
      first | (with_reducible refine Gst.now ?_) | (with_reducible refine lkC_out ?_; simp only [vawp_skip_eq, thenV_normal]; with_reducible refine Gst.now ?_) | (with_reducible refine lkC_out ?_)
      repeat (first | (simp (maxSteps := 1000000) only [↓reduceIte, go_sem]) | (simp (maxSteps := 1000000) (disch := first | omega | assumption) only [BB]) | with_reducible refine vawp_draw mixed (by kernel_rfl) ?_ | with_reducible first | refine lwV_out ?_ | refine lwV_out0 ?_ | refine lkC_out ?_ | refine And.intro (by omega) ?_ | fail)
      split
      · rename_i hc3
        rw [if_pos (by
          simp only [Bool.or_eq_true, Bool.and_eq_true, decide_eq_true_eq, beq_iff_eq, bne_iff_ne] at hc3
          refine ⟨rfl, ?_⟩
          simp only [leap, Bool.and_eq_true, Bool.or_eq_true, decide_eq_true_eq]
          rcases hc3 with hc3 | hc3
          · have : y.tmod 4 = 0 := Int.tmod_eq_zero_of_dvd (Int.dvd_trans (by decide) (Int.dvd_of_tmod_eq_zero hc3))
            exact ⟨this, .inr hc3⟩
          · exact ⟨hc3.1, .inl hc3.2⟩)] at hK
        repeat (first | (simp (maxSteps := 1000000) only [↓reduceIte, go_sem]) | (simp (maxSteps := 1000000) (disch := first | omega | assumption) only [BB]) | with_reducible refine Gst.now ?_ | with_reducible refine vawp_draw mixed (by kernel_rfl) ?_ | with_reducible first | refine lwV_out ?_ | refine lwV_out0 ?_ | refine lkC_out ?_ | refine And.intro (by omega) ?_ | fail)
        refine hq _ _ ?_
        repeat (first | (simp (maxSteps := 1000000) only [↓reduceIte, go_sem]) | (simp (maxSteps := 1000000) (disch := first | omega | assumption) only [BB]) | with_reducible refine Gst.now ?_ | with_reducible refine vawp_draw mixed (by kernel_rfl) ?_ | with_reducible first | refine lwV_out ?_ | refine lwV_out0 ?_ | refine lkC_out ?_ | refine And.intro (by omega) ?_ | fail)
        exact .now hK
      · rename_i hc3
        rw [if_neg (by
          rintro ⟨_, hl⟩
          apply hc3
          simp only [leap, Bool.and_eq_true, Bool.or_eq_true, decide_eq_true_eq] at hl
          simp only [Bool.or_eq_true, Bool.and_eq_true, decide_eq_true_eq, beq_iff_eq, bne_iff_ne]
          rcases hl with ⟨h1, h2 | h2⟩
          · exact .inr ⟨h1, h2⟩
          · exact .inl h2)] at hK
        repeat (first | (simp (maxSteps := 1000000) only [↓reduceIte, go_sem]) | (simp (maxSteps := 1000000) (disch := first | omega | assumption) only [BB]) | with_reducible refine Gst.now ?_ | with_reducible refine vawp_draw mixed (by kernel_rfl) ?_ | with_reducible first | refine lwV_out ?_ | refine lwV_out0 ?_ | refine lkC_out ?_ | refine And.intro (by omega) ?_ | fail)
        refine hq _ _ ?_
        repeat (first | (simp (maxSteps := 1000000) only [↓reduceIte, go_sem]) | (simp (maxSteps := 1000000) (disch := first | omega | assumption) only [BB]) | with_reducible refine Gst.now ?_ | with_reducible refine vawp_draw mixed (by kernel_rfl) ?_ | with_reducible first | refine lwV_out ?_ | refine lwV_out0 ?_ | refine lkC_out ?_ | refine And.intro (by omega) ?_ | fail)
        exact .now hK
    · rename_i hc2
      rw [if_neg (by rintro ⟨h2, _⟩; exact hc2 (by simpa using h2))] at hK
      first | (with_reducible refine Gst.now ?_) | (with_reducible refine lkC_out ?_; simp only [vawp_skip_eq, thenV_normal]; with_reducible refine Gst.now ?_) | (with_reducible refine lkC_out ?_)
      try simp only [vawp_seq_eq, vawp_block_eq]
      with_reducible refine vawp_regq ?_
      simp only [List.toList_toArray]
      repeat (first | (apply vopsQ_pk; (case hd => rfl); (case h1 => simp (disch := first | omega | assumption) only [↓reduceIte, go_sem]); (case h2 => simp (disch := first | omega | assumption) only [↓reduceIte, go_sem]); (case h3 => simp (disch := first | omega | assumption) only [↓reduceIte, go_sem]); (case hb => simp (disch := first | omega | assumption) only [↓reduceIte, go_sem]); (try simp (disch := first | omega | assumption) only [↓reduceIte, go_sem])) | (apply vopsQ_n; (case hd => rfl); (case hq => (intro K' hk'; repeat (first | simp (maxSteps := 4000000) (disch := first | omega | assumption) only [↓reduceIte, go_sem] | with_reducible refine Gst.now ?_ | with_reducible refine vawp_draw mixed (by kernel_rfl) ?_ | with_reducible first | refine lwV_out ?_ | refine lwV_out0 ?_ | refine lkC_out ?_ | refine And.intro (by omega) ?_ | fail); exact hk'))) | (apply vopsQ_gt; (case hd => rfl); (case h1 => rfl); (case h2 => rfl); (case h3 => simp (disch := first | omega | assumption) only [↓reduceIte, go_sem]); (case hq => (intro K' hk'; repeat (first | simp (maxSteps := 4000000) (disch := first | omega | assumption) only [↓reduceIte, go_sem] | with_reducible refine Gst.now ?_ | with_reducible refine vawp_draw mixed (by kernel_rfl) ?_ | with_reducible first | refine lwV_out ?_ | refine lwV_out0 ?_ | refine lkC_out ?_ | refine And.intro (by omega) ?_ | fail); exact hk'))) | (apply vopsQ_gf'; (case hd => rfl); (case h1 => rfl); (case h2 => rfl); (case h3 => simp (disch := first | omega | assumption) only [↓reduceIte, go_sem])) | (apply vopsQ_gj; (case hd => rfl); (case h1 => rfl); (case h2 => rfl); (case h3 => simp (disch := first | omega | assumption) only [↓reduceIte, go_sem])) | (apply vopsQ_gpk; (case hd => rfl); (case h1 => rfl); (case h2 => rfl); (case h3 => simp (disch := first | omega | assumption) only [↓reduceIte, go_sem]); (case k1 => simp (disch := first | omega | assumption) only [↓reduceIte, go_sem]); (case k2 => simp (disch := first | omega | assumption) only [↓reduceIte, go_sem]); (case k3 => simp (disch := first | omega | assumption) only [↓reduceIte, go_sem]); (case hb => (intro hc; (try simp (disch := first | omega | assumption) only [↓reduceIte, go_sem] at hc); simp (disch := first | omega | assumption) only [↓reduceIte, go_sem, hc])); (try simp (disch := first | omega | assumption) only [↓reduceIte, go_sem])) | (apply vopsQ_gu; (case hd => rfl); (case h1 => rfl); (case h2 => rfl); (case h3 => simp (disch := first | omega | assumption) only [↓reduceIte, go_sem]); (case hq => (intro hc K' hk'; (try simp (disch := first | omega | assumption) only [↓reduceIte, go_sem] at hc); repeat (first | simp (maxSteps := 4000000) (disch := first | omega | assumption) only [↓reduceIte, go_sem, hc] | with_reducible refine Gst.now ?_ | with_reducible refine vawp_draw mixed (by kernel_rfl) ?_ | with_reducible first | refine lwV_out ?_ | refine lwV_out0 ?_ | refine lkC_out ?_ | refine And.intro (by omega) ?_ | fail); exact hk')); (try simp (disch := first | omega | assumption) only [↓reduceIte, go_sem])) | fail)
      simp only [vopsQ_nil]
      repeat (first | (simp (maxSteps := 1000000) only [↓reduceIte, go_sem]) | (simp (maxSteps := 1000000) (disch := first | omega | assumption) only [BB]) | with_reducible refine vawp_draw mixed (by kernel_rfl) ?_ | with_reducible first | refine lwV_out ?_ | refine lwV_out0 ?_ | refine lkC_out ?_ | refine And.intro (by omega) ?_ | fail)
      first | (with_reducible refine Gst.now ?_) | (with_reducible refine lkC_out ?_; simp only [vawp_skip_eq, thenV_normal]; with_reducible refine Gst.now ?_) | (with_reducible refine lkC_out ?_)
      repeat (first | (simp (maxSteps := 1000000) only [↓reduceIte, go_sem]) | (simp (maxSteps := 1000000) (disch := first | omega | assumption) only [BB]) | with_reducible refine vawp_draw mixed (by kernel_rfl) ?_ | with_reducible first | refine lwV_out ?_ | refine lwV_out0 ?_ | refine lkC_out ?_ | refine And.intro (by omega) ?_ | fail)
      have hcase : m = 1 ∨ m = 3 ∨ m = 4 ∨ m = 5 ∨ m = 6 ∨ m = 7 ∨ m = 8 ∨ m = 9 ∨ m = 10 ∨ m = 11 ∨ m = 12 := by
        have : m ≠ 2 := by simpa using hc2
        omega
      rcases hcase with rfl | rfl | rfl | rfl | rfl | rfl | rfl | rfl | rfl | rfl | rfl
      all_goals
        repeat (first | (simp (maxSteps := 1000000) only [↓reduceIte, go_sem]) | (simp (maxSteps := 1000000) (disch := first | omega | assumption) only [BB]) | with_reducible refine Gst.now ?_ | with_reducible refine vawp_draw mixed (by kernel_rfl) ?_ | with_reducible first | refine lwV_out ?_ | refine lwV_out0 ?_ | refine lkC_out ?_ | refine And.intro (by omega) ?_ | fail)
        refine hq _ _ ?_
        repeat (first | (simp (maxSteps := 1000000) only [↓reduceIte, go_sem]) | (simp (maxSteps := 1000000) (disch := first | omega | assumption) only [BB]) | with_reducible refine Gst.now ?_ | with_reducible refine vawp_draw mixed (by kernel_rfl) ?_ | with_reducible first | refine lwV_out ?_ | refine lwV_out0 ?_ | refine lkC_out ?_ | refine And.intro (by omega) ?_ | fail)
        exact .now hK
theorem right_v {t : StV} (hK : K (.sc (.bool (rightB t))) h) : VC Tryd.prog GL (n + 2) 8 [.agg (sC t)] h K := by
  refine VC_go Tryd.func8 rfl (by decide) Tryd.ntmps8 Tryd.results8 rfl fun Q hq hn => ?_
  repeat (first | (simp (maxSteps := 1000000) only [↓reduceIte, go_sem]) | (simp (maxSteps := 1000000) (disch := first | omega | assumption) only [BB]) | with_reducible refine Gst.now ?_ | with_reducible first | refine lwV_out ?_ | refine lwV_out0 ?_ | refine lkC_out ?_ | refine And.intro (by omega) ?_ | fail)
  intro j hj
  repeat (first | (simp (maxSteps := 1000000) only [↓reduceIte, go_sem]) | (simp (maxSteps := 1000000) (disch := first | omega | assumption) only [BB]) | with_reducible refine Gst.now ?_ | with_reducible first | refine lwV_out ?_ | refine lwV_out0 ?_ | refine lkC_out ?_ | refine And.intro (by omega) ?_ | fail)
  apply vawp_quiet 23 0 mixed
  case hk => rfl
  case hok => kernel_rfl
  simp only [List.toList_toArray, List.take_succ_cons, List.take_zero]
  repeat (first | (apply vopsQ_pk; (case hd => rfl); (case h1 => simp (disch := first | omega | assumption) only [↓reduceIte, go_sem]); (case h2 => simp (disch := first | omega | assumption) only [↓reduceIte, go_sem]); (case h3 => simp (disch := first | omega | assumption) only [↓reduceIte, go_sem]); (case hb => simp (disch := first | omega | assumption) only [↓reduceIte, go_sem]); (try simp (disch := first | omega | assumption) only [↓reduceIte, go_sem])) | (apply vopsQ_n; (case hd => rfl); (case hq => (intro K' hk'; repeat (first | simp (maxSteps := 4000000) (disch := first | omega | assumption) only [↓reduceIte, go_sem] | with_reducible refine Gst.now ?_ | with_reducible refine vawp_draw mixed (by kernel_rfl) ?_ | with_reducible first | refine lwV_out ?_ | refine lwV_out0 ?_ | refine lkC_out ?_ | refine And.intro (by omega) ?_ | fail); exact hk'))) | (apply vopsQ_gt; (case hd => rfl); (case h1 => rfl); (case h2 => rfl); (case h3 => simp (disch := first | omega | assumption) only [↓reduceIte, go_sem]); (case hq => (intro K' hk'; repeat (first | simp (maxSteps := 4000000) (disch := first | omega | assumption) only [↓reduceIte, go_sem] | with_reducible refine Gst.now ?_ | with_reducible refine vawp_draw mixed (by kernel_rfl) ?_ | with_reducible first | refine lwV_out ?_ | refine lwV_out0 ?_ | refine lkC_out ?_ | refine And.intro (by omega) ?_ | fail); exact hk'))) | (apply vopsQ_gf'; (case hd => rfl); (case h1 => rfl); (case h2 => rfl); (case h3 => simp (disch := first | omega | assumption) only [↓reduceIte, go_sem])) | (apply vopsQ_gj; (case hd => rfl); (case h1 => rfl); (case h2 => rfl); (case h3 => simp (disch := first | omega | assumption) only [↓reduceIte, go_sem])) | (apply vopsQ_gpk; (case hd => rfl); (case h1 => rfl); (case h2 => rfl); (case h3 => simp (disch := first | omega | assumption) only [↓reduceIte, go_sem]); (case k1 => simp (disch := first | omega | assumption) only [↓reduceIte, go_sem]); (case k2 => simp (disch := first | omega | assumption) only [↓reduceIte, go_sem]); (case k3 => simp (disch := first | omega | assumption) only [↓reduceIte, go_sem]); (case hb => (intro hc; (try simp (disch := first | omega | assumption) only [↓reduceIte, go_sem] at hc); simp (disch := first | omega | assumption) only [↓reduceIte, go_sem, hc])); (try simp (disch := first | omega | assumption) only [↓reduceIte, go_sem])) | (apply vopsQ_gu; (case hd => rfl); (case h1 => rfl); (case h2 => rfl); (case h3 => simp (disch := first | omega | assumption) only [↓reduceIte, go_sem]); (case hq => (intro hc K' hk'; (try simp (disch := first | omega | assumption) only [↓reduceIte, go_sem] at hc); repeat (first | simp (maxSteps := 4000000) (disch := first | omega | assumption) only [↓reduceIte, go_sem, hc] | with_reducible refine Gst.now ?_ | with_reducible refine vawp_draw mixed (by kernel_rfl) ?_ | with_reducible first | refine lwV_out ?_ | refine lwV_out0 ?_ | refine lkC_out ?_ | refine And.intro (by omega) ?_ | fail); exact hk')); (try simp (disch := first | omega | assumption) only [↓reduceIte, go_sem])) | fail)
  apply vopsQ_gu; (case hd => rfl); (case h1 => rfl); (case h2 => rfl); (case h3 => simp (disch := first | omega | assumption) only [↓reduceIte, go_sem])
  case hq => (intro hc K' hk'; (try simp (disch := first | omega | assumption) only [↓reduceIte, go_sem] at hc); repeat (first | simp (maxSteps := 4000000) (disch := first | omega | assumption) only [↓reduceIte, go_sem, hc] | with_reducible refine Gst.now ?_ | with_reducible refine vawp_draw mixed (by kernel_rfl) ?_ | with_reducible first | refine lwV_out ?_ | refine lwV_out0 ?_ | refine lkC_out ?_ | refine And.intro (by omega) ?_ | fail); refine call_ok ?_; refine daysR_v ?_; exact hk')
  (try simp (disch := first | omega | assumption) only [↓reduceIte, go_sem])
  repeat (first | (apply vopsQ_pk; (case hd => rfl); (case h1 => simp (disch := first | omega | assumption) only [↓reduceIte, go_sem]); (case h2 => simp (disch := first | omega | assumption) only [↓reduceIte, go_sem]); (case h3 => simp (disch := first | omega | assumption) only [↓reduceIte, go_sem]); (case hb => simp (disch := first | omega | assumption) only [↓reduceIte, go_sem]); (try simp (disch := first | omega | assumption) only [↓reduceIte, go_sem])) | (apply vopsQ_n; (case hd => rfl); (case hq => (intro K' hk'; repeat (first | simp (maxSteps := 4000000) (disch := first | omega | assumption) only [↓reduceIte, go_sem] | with_reducible refine Gst.now ?_ | with_reducible refine vawp_draw mixed (by kernel_rfl) ?_ | with_reducible first | refine lwV_out ?_ | refine lwV_out0 ?_ | refine lkC_out ?_ | refine And.intro (by omega) ?_ | fail); exact hk'))) | (apply vopsQ_gt; (case hd => rfl); (case h1 => rfl); (case h2 => rfl); (case h3 => simp (disch := first | omega | assumption) only [↓reduceIte, go_sem]); (case hq => (intro K' hk'; repeat (first | simp (maxSteps := 4000000) (disch := first | omega | assumption) only [↓reduceIte, go_sem] | with_reducible refine Gst.now ?_ | with_reducible refine vawp_draw mixed (by kernel_rfl) ?_ | with_reducible first | refine lwV_out ?_ | refine lwV_out0 ?_ | refine lkC_out ?_ | refine And.intro (by omega) ?_ | fail); exact hk'))) | (apply vopsQ_gf'; (case hd => rfl); (case h1 => rfl); (case h2 => rfl); (case h3 => simp (disch := first | omega | assumption) only [↓reduceIte, go_sem])) | (apply vopsQ_gj; (case hd => rfl); (case h1 => rfl); (case h2 => rfl); (case h3 => simp (disch := first | omega | assumption) only [↓reduceIte, go_sem])) | (apply vopsQ_gpk; (case hd => rfl); (case h1 => rfl); (case h2 => rfl); (case h3 => simp (disch := first | omega | assumption) only [↓reduceIte, go_sem]); (case k1 => simp (disch := first | omega | assumption) only [↓reduceIte, go_sem]); (case k2 => simp (disch := first | omega | assumption) only [↓reduceIte, go_sem]); (case k3 => simp (disch := first | omega | assumption) only [↓reduceIte, go_sem]); (case hb => (intro hc; (try simp (disch := first | omega | assumption) only [↓reduceIte, go_sem] at hc); simp (disch := first | omega | assumption) only [↓reduceIte, go_sem, hc])); (try simp (disch := first | omega | assumption) only [↓reduceIte, go_sem])) | (apply vopsQ_gu; (case hd => rfl); (case h1 => rfl); (case h2 => rfl); (case h3 => simp (disch := first | omega | assumption) only [↓reduceIte, go_sem]); (case hq => (intro hc K' hk'; (try simp (disch := first | omega | assumption) only [↓reduceIte, go_sem] at hc); repeat (first | simp (maxSteps := 4000000) (disch := first | omega | assumption) only [↓reduceIte, go_sem, hc] | with_reducible refine Gst.now ?_ | with_reducible refine vawp_draw mixed (by kernel_rfl) ?_ | with_reducible first | refine lwV_out ?_ | refine lwV_out0 ?_ | refine lkC_out ?_ | refine And.intro (by omega) ?_ | fail); exact hk')); (try simp (disch := first | omega | assumption) only [↓reduceIte, go_sem])) | fail)
  simp only [vopsQ_nil]
  refine vany_end (by kernel_rfl) ?_
  repeat (first | (simp (maxSteps := 1000000) only [↓reduceIte, go_sem]) | (simp (maxSteps := 1000000) (disch := first | omega | assumption) only [BB]) | with_reducible refine vawp_draw mixed (by kernel_rfl) ?_ | with_reducible first | refine lwV_out ?_ | refine lwV_out0 ?_ | refine lkC_out ?_ | refine And.intro (by omega) ?_ | fail)
  first | (with_reducible refine Gst.now ?_) | (with_reducible refine lkC_out ?_; simp only [vawp_skip_eq, thenV_normal]; with_reducible refine Gst.now ?_) | (with_reducible refine lkC_out ?_)
  repeat (first | (simp (maxSteps := 1000000) only [↓reduceIte, go_sem]) | (simp (maxSteps := 1000000) (disch := first | omega | assumption) only [BB]) | with_reducible refine vawp_draw mixed (by kernel_rfl) ?_ | with_reducible first | refine lwV_out ?_ | refine lwV_out0 ?_ | refine lkC_out ?_ | refine And.intro (by omega) ?_ | fail)
  split
  · rename_i hc
    have hr : rightB t = false := by
      rw [Bool.eq_false_iff]
      intro hr
      obtain ⟨a, b, c, d, e, f, g⟩ := right_iff.1 hr
      simp only [Bool.or_eq_true, decide_eq_true_eq] at hc
      omega
    rw [hr] at hK
    repeat (first | (simp (maxSteps := 1000000) only [↓reduceIte, go_sem]) | (simp (maxSteps := 1000000) (disch := first | omega | assumption) only [BB]) | with_reducible refine Gst.now ?_ | with_reducible refine vawp_draw mixed (by kernel_rfl) ?_ | with_reducible first | refine lwV_out ?_ | refine lwV_out0 ?_ | refine lkC_out ?_ | refine And.intro (by omega) ?_ | fail)
    refine hq _ _ ?_
    repeat (first | (simp (maxSteps := 1000000) only [↓reduceIte, go_sem]) | (simp (maxSteps := 1000000) (disch := first | omega | assumption) only [BB]) | with_reducible refine Gst.now ?_ | with_reducible refine vawp_draw mixed (by kernel_rfl) ?_ | with_reducible first | refine lwV_out ?_ | refine lwV_out0 ?_ | refine lkC_out ?_ | refine And.intro (by omega) ?_ | fail)
    refine .drop j ?_
    repeat (first | (simp (maxSteps := 1000000) only [↓reduceIte, go_sem]) | (simp (maxSteps := 1000000) (disch := first | omega | assumption) only [BB]) | with_reducible refine Gst.now ?_ | with_reducible refine vawp_draw mixed (by kernel_rfl) ?_ | with_reducible first | refine lwV_out ?_ | refine lwV_out0 ?_ | refine lkC_out ?_ | refine And.intro (by omega) ?_ | fail)
    exact .now hK
  · rename_i hc
    have hd : (1980 ≤ t.y ∧ t.y ≤ 2107) ∧ 1 ≤ t.d ∧ t.d ≤ daysI t.y t.m := by
      simp only [Bool.or_eq_true, decide_eq_true_eq] at hc
      omega
    have hm : 1 ≤ t.m ∧ t.m ≤ 12 := by
      by_cases hm : t.m < 1 ∨ 12 < t.m
      · have : daysI t.y t.m = 0 := by unfold daysI; rw [if_pos hm]
        omega
      · omega
    first | (with_reducible refine Gst.now ?_) | (with_reducible refine lkC_out ?_; simp only [vawp_skip_eq, thenV_normal]; with_reducible refine Gst.now ?_) | (with_reducible refine lkC_out ?_)
    try simp only [vawp_seq_eq, vawp_block_eq]
    with_reducible refine vawp_regq ?_
    simp only [List.toList_toArray]
    repeat (first | (apply vopsQ_pk; (case hd => rfl); (case h1 => simp (disch := first | omega | assumption) only [↓reduceIte, go_sem]); (case h2 => simp (disch := first | omega | assumption) only [↓reduceIte, go_sem]); (case h3 => simp (disch := first | omega | assumption) only [↓reduceIte, go_sem]); (case hb => simp (disch := first | omega | assumption) only [↓reduceIte, go_sem]); (try simp (disch := first | omega | assumption) only [↓reduceIte, go_sem])) | (apply vopsQ_n; (case hd => rfl); (case hq => (intro K' hk'; repeat (first | simp (maxSteps := 4000000) (disch := first | omega | assumption) only [↓reduceIte, go_sem] | with_reducible refine Gst.now ?_ | with_reducible refine vawp_draw mixed (by kernel_rfl) ?_ | with_reducible first | refine lwV_out ?_ | refine lwV_out0 ?_ | refine lkC_out ?_ | refine And.intro (by omega) ?_ | fail); exact hk'))) | (apply vopsQ_gt; (case hd => rfl); (case h1 => rfl); (case h2 => rfl); (case h3 => simp (disch := first | omega | assumption) only [↓reduceIte, go_sem]); (case hq => (intro K' hk'; repeat (first | simp (maxSteps := 4000000) (disch := first | omega | assumption) only [↓reduceIte, go_sem] | with_reducible refine Gst.now ?_ | with_reducible refine vawp_draw mixed (by kernel_rfl) ?_ | with_reducible first | refine lwV_out ?_ | refine lwV_out0 ?_ | refine lkC_out ?_ | refine And.intro (by omega) ?_ | fail); exact hk'))) | (apply vopsQ_gf'; (case hd => rfl); (case h1 => rfl); (case h2 => rfl); (case h3 => simp (disch := first | omega | assumption) only [↓reduceIte, go_sem])) | (apply vopsQ_gj; (case hd => rfl); (case h1 => rfl); (case h2 => rfl); (case h3 => simp (disch := first | omega | assumption) only [↓reduceIte, go_sem])) | (apply vopsQ_gpk; (case hd => rfl); (case h1 => rfl); (case h2 => rfl); (case h3 => simp (disch := first | omega | assumption) only [↓reduceIte, go_sem]); (case k1 => simp (disch := first | omega | assumption) only [↓reduceIte, go_sem]); (case k2 => simp (disch := first | omega | assumption) only [↓reduceIte, go_sem]); (case k3 => simp (disch := first | omega | assumption) only [↓reduceIte, go_sem]); (case hb => (intro hc; (try simp (disch := first | omega | assumption) only [↓reduceIte, go_sem] at hc); simp (disch := first | omega | assumption) only [↓reduceIte, go_sem, hc])); (try simp (disch := first | omega | assumption) only [↓reduceIte, go_sem])) | (apply vopsQ_gu; (case hd => rfl); (case h1 => rfl); (case h2 => rfl); (case h3 => simp (disch := first | omega | assumption) only [↓reduceIte, go_sem]); (case hq => (intro hc K' hk'; (try simp (disch := first | omega | assumption) only [↓reduceIte, go_sem] at hc); repeat (first | simp (maxSteps := 4000000) (disch := first | omega | assumption) only [↓reduceIte, go_sem, hc] | with_reducible refine Gst.now ?_ | with_reducible refine vawp_draw mixed (by kernel_rfl) ?_ | with_reducible first | refine lwV_out ?_ | refine lwV_out0 ?_ | refine lkC_out ?_ | refine And.intro (by omega) ?_ | fail); exact hk')); (try simp (disch := first | omega | assumption) only [↓reduceIte, go_sem])) | fail)
    simp only [vopsQ_nil]
    repeat (first | (simp (maxSteps := 1000000) only [↓reduceIte, go_sem]) | (simp (maxSteps := 1000000) (disch := first | omega | assumption) only [BB]) | with_reducible refine vawp_draw mixed (by kernel_rfl) ?_ | with_reducible first | refine lwV_out ?_ | refine lwV_out0 ?_ | refine lkC_out ?_ | refine And.intro (by omega) ?_ | fail)
    first | (with_reducible refine Gst.now ?_) | (with_reducible refine lkC_out ?_; simp only [vawp_skip_eq, thenV_normal]; with_reducible refine Gst.now ?_) | (with_reducible refine lkC_out ?_)
    repeat (first | (simp (maxSteps := 1000000) only [↓reduceIte, go_sem]) | (simp (maxSteps := 1000000) (disch := first | omega | assumption) only [BB]) | with_reducible refine Gst.now ?_ | with_reducible refine vawp_draw mixed (by kernel_rfl) ?_ | with_reducible first | refine lwV_out ?_ | refine lwV_out0 ?_ | refine lkC_out ?_ | refine And.intro (by omega) ?_ | fail)
    refine hq _ _ ?_
    repeat (first | (simp (maxSteps := 1000000) only [↓reduceIte, go_sem]) | (simp (maxSteps := 1000000) (disch := first | omega | assumption) only [BB]) | with_reducible refine Gst.now ?_ | with_reducible refine vawp_draw mixed (by kernel_rfl) ?_ | with_reducible first | refine lwV_out ?_ | refine lwV_out0 ?_ | refine lkC_out ?_ | refine And.intro (by omega) ?_ | fail)
    refine .drop j ?_
    repeat (first | (simp (maxSteps := 1000000) only [↓reduceIte, go_sem]) | (simp (maxSteps := 1000000) (disch := first | omega | assumption) only [BB]) | with_reducible refine Gst.now ?_ | with_reducible refine vawp_draw mixed (by kernel_rfl) ?_ | with_reducible first | refine lwV_out ?_ | refine lwV_out0 ?_ | refine lkC_out ?_ | refine And.intro (by omega) ?_ | fail)
    refine .now (kcast hK (congrArg (fun b => AV.sc (.bool b)) ?_) rfl)
    rw [Bool.eq_iff_iff]
    simp only [Bool.and_eq_true, decide_eq_true_eq, beq_iff_eq, right_iff]
    constructor
    · intro hh; omega
    · intro hh; omega
theorem packR_v {t : StV} (hK : ∀ x y : Int, (rightB t = true → x = packD t ∧ y = packT t) → K (.tup [(.sc (.int .i64 (x))), (.sc (.int .i64 (y)))]) h) : VC Tryd.prog GL (n + 1) 11 [.agg (sC t)] h K := by
  refine VC_go Tryd.func11 rfl (by decide) Tryd.ntmps11 Tryd.results11 rfl fun Q hq hn => ?_
  by_cases hr : rightB t = true
  · obtain ⟨a, b, c, d, e, f, _⟩ := right_iff.1 hr
    have hd := daysI_le t.y t.m
    have e2 : t.s.tdiv 2 = t.s / 2 := Int.tdiv_eq_ediv_of_nonneg f.1
    repeat (first | (simp (maxSteps := 1000000) only [↓reduceIte, go_sem, e2]) | (simp (maxSteps := 1000000) (disch := first | omega | assumption) only [BB, e2]) | with_reducible refine Gst.now ?_ | with_reducible refine vawp_draw mixed (by kernel_rfl) ?_ | with_reducible first | refine lwV_out ?_ | refine lwV_out0 ?_ | refine lkC_out ?_ | refine And.intro (by omega) ?_ | fail)
    intro j hj
    repeat (first | (simp (maxSteps := 1000000) only [↓reduceIte, go_sem, e2]) | (simp (maxSteps := 1000000) (disch := first | omega | assumption) only [BB, e2]) | with_reducible refine Gst.now ?_ | with_reducible refine vawp_draw mixed (by kernel_rfl) ?_ | with_reducible first | refine lwV_out ?_ | refine lwV_out0 ?_ | refine lkC_out ?_ | refine And.intro (by omega) ?_ | fail)
    refine hq _ _ ?_
    repeat (first | (simp (maxSteps := 1000000) only [↓reduceIte, go_sem, e2]) | (simp (maxSteps := 1000000) (disch := first | omega | assumption) only [BB, e2]) | with_reducible refine Gst.now ?_ | with_reducible refine vawp_draw mixed (by kernel_rfl) ?_ | with_reducible first | refine lwV_out ?_ | refine lwV_out0 ?_ | refine lkC_out ?_ | refine And.intro (by omega) ?_ | fail)
    refine .drop j ?_
    repeat (first | (simp (maxSteps := 1000000) only [↓reduceIte, go_sem, e2]) | (simp (maxSteps := 1000000) (disch := first | omega | assumption) only [BB, e2]) | with_reducible refine Gst.now ?_ | with_reducible refine vawp_draw mixed (by kernel_rfl) ?_ | with_reducible first | refine lwV_out ?_ | refine lwV_out0 ?_ | refine lkC_out ?_ | refine And.intro (by omega) ?_ | fail)
    exact .now (hK _ _ fun _ => ⟨rfl, rfl⟩)
  · repeat (first | (simp (maxSteps := 1000000) only [↓reduceIte, go_sem]) | (simp (maxSteps := 1000000) (disch := first | omega | assumption) only [BB]) | with_reducible refine Gst.now ?_ | with_reducible refine vawp_draw mixed (by kernel_rfl) ?_ | with_reducible first | refine lwV_out ?_ | refine lwV_out0 ?_ | refine lkC_out ?_ | refine And.intro (by omega) ?_ | fail)
    intro j hj
    repeat (first | (simp (maxSteps := 1000000) only [↓reduceIte, go_sem]) | (simp (maxSteps := 1000000) (disch := first | omega | assumption) only [BB]) | with_reducible refine Gst.now ?_ | with_reducible refine vawp_draw mixed (by kernel_rfl) ?_ | with_reducible first | refine lwV_out ?_ | refine lwV_out0 ?_ | refine lkC_out ?_ | refine And.intro (by omega) ?_ | fail)
    refine hq _ _ ?_
    repeat (first | (simp (maxSteps := 1000000) only [↓reduceIte, go_sem]) | (simp (maxSteps := 1000000) (disch := first | omega | assumption) only [BB]) | with_reducible refine Gst.now ?_ | with_reducible refine vawp_draw mixed (by kernel_rfl) ?_ | with_reducible first | refine lwV_out ?_ | refine lwV_out0 ?_ | refine lkC_out ?_ | refine And.intro (by omega) ?_ | fail)
    refine .drop j ?_
    repeat (first | (simp (maxSteps := 1000000) only [↓reduceIte, go_sem]) | (simp (maxSteps := 1000000) (disch := first | omega | assumption) only [BB]) | with_reducible refine Gst.now ?_ | with_reducible refine vawp_draw mixed (by kernel_rfl) ?_ | with_reducible first | refine lwV_out ?_ | refine lwV_out0 ?_ | refine lkC_out ?_ | refine And.intro (by omega) ?_ | fail)
    exact .now (hK _ _ fun h => absurd h hr)
theorem unpackR_v {d m : Nat} (hd : d < 65536) (hm : m < 65536) (hK1 : rightB (unS d m) = true → K (.tup [.agg (sC (unS d m)), (.sc (.bool (true)))]) h) (hK2 : rightB (unS d m) = false → K (.tup [.agg (sC zS), (.sc (.bool (false)))]) h) : VC Tryd.prog GL (n + 3) 13 [(.sc (.int .u16 (d))), (.sc (.int .u16 (m)))] h K := by
  refine VC_go Tryd.func13 rfl (by decide) Tryd.ntmps13 Tryd.results13 rfl fun Q hq hn => ?_
  repeat (first | (simp (maxSteps := 1000000) only [↓reduceIte, go_sem]) | (simp (maxSteps := 1000000) (disch := first | omega | assumption) only [BB]) | with_reducible refine Gst.now ?_ | with_reducible refine vawp_draw mixed (by kernel_rfl) ?_ | with_reducible first | refine lwV_out ?_ | refine lwV_out0 ?_ | refine lkC_out ?_ | refine And.intro (by omega) ?_ | fail)
  intro j hj
  repeat (first | (simp (maxSteps := 1000000) only [↓reduceIte, go_sem]) | (simp (maxSteps := 1000000) (disch := first | omega | assumption) only [BB]) | with_reducible refine Gst.now ?_ | with_reducible refine vawp_draw mixed (by kernel_rfl) ?_ | with_reducible first | refine lwV_out ?_ | refine lwV_out0 ?_ | refine lkC_out ?_ | refine And.intro (by omega) ?_ | fail)
  intro p hp
  try simp (disch := first | omega | assumption) only [go_sem, hset_none, hdel_none] at hp
  try simp (disch := first | omega | assumption) only [hset_none, hdel_none] at hp
  repeat (first | (simp (maxSteps := 1000000) only [↓reduceIte, go_sem]) | (simp (maxSteps := 1000000) (disch := first | omega | assumption) only [BB]) | with_reducible refine Gst.now ?_ | with_reducible refine vawp_draw mixed (by kernel_rfl) ?_ | with_reducible first | refine lwV_out ?_ | refine lwV_out0 ?_ | refine lkC_out ?_ | refine And.intro (by omega) ?_ | fail)
  rw [show 2 * (m % 32) = m % 32 * 2 from Nat.mul_comm _ _, show [(.sc (.int .i64 ((1980 + d / 512 : Nat)))), (.sc (.int .i64 ((d / 32 % 16 : Nat)))), (.sc (.int .i64 ((d % 32 : Nat)))), (.sc (.int .i64 ((m / 2048 : Nat)))), (.sc (.int .i64 ((m / 32 % 64 : Nat)))), (.sc (.int .i64 ((m % 32 * 2 : Nat))))] = sC (unS d m) from rfl]
  with_reducible refine call_ok ?_
  refine right_v ?_
  generalize unS d m = t at *
  cases hr : rightB t with
  | false =>
    have hK := hK2 hr
    repeat (first | (simp (maxSteps := 1000000) only [↓reduceIte, go_sem]) | (simp (maxSteps := 1000000) (disch := first | omega | assumption) only [BB]) | with_reducible refine Gst.now ?_ | with_reducible refine vawp_draw mixed (by kernel_rfl) ?_ | with_reducible first | refine lwV_out ?_ | refine lwV_out0 ?_ | refine lkC_out ?_ | refine And.intro (by omega) ?_ | fail)
    refine hq _ _ ?_
    repeat (first | (simp (maxSteps := 1000000) only [↓reduceIte, go_sem]) | (simp (maxSteps := 1000000) (disch := first | omega | assumption) only [BB]) | with_reducible refine Gst.now ?_ | with_reducible refine vawp_draw mixed (by kernel_rfl) ?_ | with_reducible first | refine lwV_out ?_ | refine lwV_out0 ?_ | refine lkC_out ?_ | refine And.intro (by omega) ?_ | fail)
    repeat (first | (simp (maxSteps := 1000000) only [↓reduceIte, go_sem]) | (simp (maxSteps := 1000000) (disch := first | omega | assumption) only [BB]) | with_reducible refine Gst.now ?_ | with_reducible refine vawp_draw mixed (by kernel_rfl) ?_ | with_reducible first | refine lwV_out ?_ | refine lwV_out0 ?_ | refine lkC_out ?_ | refine And.intro (by omega) ?_ | fail)
    refine .drop p (.drop j ?_)
    refine FrK.now (hcast (hK) ?_)
    first | rfl | (funext i; simp only [hset, hdel]; repeat' split) <;> (first | rfl | (subst_vars; simp_all [hset, hdel]; done) | (subst_vars; exfalso; simp_all [hset, hdel]; done))
  | true =>
    have hK := hK1 hr
    repeat (first | (simp (maxSteps := 1000000) only [↓reduceIte, go_sem]) | (simp (maxSteps := 1000000) (disch := first | omega | assumption) only [BB]) | with_reducible refine Gst.now ?_ | with_reducible refine vawp_draw mixed (by kernel_rfl) ?_ | with_reducible first | refine lwV_out ?_ | refine lwV_out0 ?_ | refine lkC_out ?_ | refine And.intro (by omega) ?_ | fail)
    refine hq _ _ ?_
    repeat (first | (simp (maxSteps := 1000000) only [↓reduceIte, go_sem]) | (simp (maxSteps := 1000000) (disch := first | omega | assumption) only [BB]) | with_reducible refine Gst.now ?_ | with_reducible refine vawp_draw mixed (by kernel_rfl) ?_ | with_reducible first | refine lwV_out ?_ | refine lwV_out0 ?_ | refine lkC_out ?_ | refine And.intro (by omega) ?_ | fail)
    repeat (first | (simp (maxSteps := 1000000) only [↓reduceIte, go_sem]) | (simp (maxSteps := 1000000) (disch := first | omega | assumption) only [BB]) | with_reducible refine Gst.now ?_ | with_reducible refine vawp_draw mixed (by kernel_rfl) ?_ | with_reducible first | refine lwV_out ?_ | refine lwV_out0 ?_ | refine lkC_out ?_ | refine And.intro (by omega) ?_ | fail)
    refine .drop p (.drop j ?_)
    refine FrK.now (hcast (hK) ?_)
    first | rfl | (funext i; simp only [hset, hdel]; repeat' split) <;> (first | rfl | (subst_vars; simp_all [hset, hdel]; done) | (subst_vars; exfalso; simp_all [hset, hdel]; done))
def nums (t : StV) : List Int := [t.y, t.m, t.d, t.h, t.mi, t.s]
theorem numbers_v {t : StV} (hK : K (.isl false 6 ((nums t).map (ivI .i64))) h) : VC Tryd.prog GL (n + 1) 21 [.agg (sC t)] h K := by
  refine VC_go Tryd.func21 rfl (by decide) Tryd.ntmps21 Tryd.results21 rfl fun Q hq hn => ?_
  repeat (first | (simp (maxSteps := 1000000) only [↓reduceIte, go_sem]) | (simp (maxSteps := 1000000) (disch := first | omega | assumption) only [BB]) | with_reducible refine Gst.now ?_ | with_reducible refine vawp_draw mixed (by kernel_rfl) ?_ | with_reducible first | refine lwV_out ?_ | refine lwV_out0 ?_ | refine lkC_out ?_ | refine And.intro (by omega) ?_ | fail)
  intro j hj
  repeat (first | (simp (maxSteps := 1000000) only [↓reduceIte, go_sem]) | (simp (maxSteps := 1000000) (disch := first | omega | assumption) only [BB]) | with_reducible refine Gst.now ?_ | with_reducible refine vawp_draw mixed (by kernel_rfl) ?_ | with_reducible first | refine lwV_out ?_ | refine lwV_out0 ?_ | refine lkC_out ?_ | refine And.intro (by omega) ?_ | fail)
  refine vBuildS_i bs46 ?_ ?_ ?_ ?_ ?_
  rfl
  rfl
  rfl
  rfl
  repeat (first | (simp (maxSteps := 1000000) only [↓reduceIte, go_sem]) | (simp (maxSteps := 1000000) (disch := first | omega | assumption) only [BB]) | with_reducible refine Gst.now ?_ | with_reducible refine vawp_draw mixed (by kernel_rfl) ?_ | with_reducible first | refine lwV_out ?_ | refine lwV_out0 ?_ | refine lkC_out ?_ | refine And.intro (by omega) ?_ | fail)
  refine hq _ _ ?_
  repeat (first | (simp (maxSteps := 1000000) only [↓reduceIte, go_sem]) | (simp (maxSteps := 1000000) (disch := first | omega | assumption) only [BB]) | with_reducible refine Gst.now ?_ | with_reducible refine vawp_draw mixed (by kernel_rfl) ?_ | with_reducible first | refine lwV_out ?_ | refine lwV_out0 ?_ | refine lkC_out ?_ | refine And.intro (by omega) ?_ | fail)
  refine .drop j ?_
  repeat (first | (simp (maxSteps := 1000000) only [↓reduceIte, go_sem]) | (simp (maxSteps := 1000000) (disch := first | omega | assumption) only [BB]) | with_reducible refine Gst.now ?_ | with_reducible refine vawp_draw mixed (by kernel_rfl) ?_ | with_reducible first | refine lwV_out ?_ | refine lwV_out0 ?_ | refine lkC_out ?_ | refine And.intro (by omega) ?_ | fail)
  exact .now hK
def cmpL : List Int → List Int → Int
  | x :: xs, y :: ys => if x < y then -1 else if y < x then 1 else cmpL xs ys
  | _, _ => 0
theorem orI_cmp (x y : Int) (r : List Int) : orI (cmpI x y :: r) = if x < y then -1 else if y < x then 1 else orI r := by
  simp only [orI, cmpI]
  split
  · rfl
  · split <;> rfl
theorem cmpS_L (a b : StV) : cmpS a b = cmpL (nums a) (nums b) := by
  unfold cmpS
  rw [orI_cmp, orI_cmp, orI_cmp, orI_cmp, orI_cmp, orI_cmp]; rfl
theorem cmpL_drop {xs ys : List Int} {i : Nat} (h1 : i < xs.length) (h2 : i < ys.length) : cmpL (xs.drop i) (ys.drop i) = if xs.getD i 0 < ys.getD i 0 then -1 else if ys.getD i 0 < xs.getD i 0 then 1 else cmpL (xs.drop (i + 1)) (ys.drop (i + 1)) := by
  rw [List.drop_eq_getElem_cons h1, List.drop_eq_getElem_cons h2, List.getD_eq_getElem?_getD, List.getElem?_eq_getElem h1, List.getD_eq_getElem?_getD, List.getElem?_eq_getElem h2]; rfl
theorem compareR_v {a b : StV} (hK : K (.sc (.int .i64 (cmpS a b))) h) : VC Tryd.prog GL (n + 2) 17 [.agg (sC a), .agg (sC b)] h K := by
  refine VC_go Tryd.func17 rfl (by decide) Tryd.ntmps17 Tryd.results17 rfl fun Q hq hn => ?_
  rw [cmpS_L] at hK
  repeat (first | (simp (maxSteps := 1000000) only [↓reduceIte, go_sem]) | (simp (maxSteps := 1000000) (disch := first | omega | assumption) only [BB]) | with_reducible refine Gst.now ?_ | with_reducible first | refine lwV_out ?_ | refine lwV_out0 ?_ | refine lkC_out ?_ | refine And.intro (by omega) ?_ | fail)
  intro j hj
  repeat (first | (simp (maxSteps := 1000000) only [↓reduceIte, go_sem]) | (simp (maxSteps := 1000000) (disch := first | omega | assumption) only [BB]) | with_reducible refine Gst.now ?_ | with_reducible first | refine lwV_out ?_ | refine lwV_out0 ?_ | refine lkC_out ?_ | refine And.intro (by omega) ?_ | fail)
  intro p hp
  try simp (disch := first | omega | assumption) only [go_sem, hset_none, hdel_none] at hp
  try simp (disch := first | omega | assumption) only [hset_none, hdel_none] at hp
  repeat (first | (simp (maxSteps := 1000000) only [↓reduceIte, go_sem]) | (simp (maxSteps := 1000000) (disch := first | omega | assumption) only [BB]) | with_reducible refine Gst.now ?_ | with_reducible first | refine lwV_out ?_ | refine lwV_out0 ?_ | refine lkC_out ?_ | refine And.intro (by omega) ?_ | fail)
  apply vawp_quiet 6 0 mixed
  case hk => rfl
  case hok => kernel_rfl
  simp only [List.toList_toArray, List.take_succ_cons, List.take_zero]
  repeat (first | (apply vopsQ_pk; (case hd => rfl); (case h1 => simp (disch := first | omega | assumption) only [↓reduceIte, go_sem]); (case h2 => simp (disch := first | omega | assumption) only [↓reduceIte, go_sem]); (case h3 => simp (disch := first | omega | assumption) only [↓reduceIte, go_sem]); (case hb => simp (disch := first | omega | assumption) only [↓reduceIte, go_sem]); (try simp (disch := first | omega | assumption) only [↓reduceIte, go_sem])) | (apply vopsQ_n; (case hd => rfl); (case hq => (intro K' hk'; repeat (first | simp (maxSteps := 4000000) (disch := first | omega | assumption) only [↓reduceIte, go_sem] | with_reducible refine Gst.now ?_ | with_reducible refine vawp_draw mixed (by kernel_rfl) ?_ | with_reducible first | refine lwV_out ?_ | refine lwV_out0 ?_ | refine lkC_out ?_ | refine And.intro (by omega) ?_ | fail); exact hk'))) | (apply vopsQ_gt; (case hd => rfl); (case h1 => rfl); (case h2 => rfl); (case h3 => simp (disch := first | omega | assumption) only [↓reduceIte, go_sem]); (case hq => (intro K' hk'; repeat (first | simp (maxSteps := 4000000) (disch := first | omega | assumption) only [↓reduceIte, go_sem] | with_reducible refine Gst.now ?_ | with_reducible refine vawp_draw mixed (by kernel_rfl) ?_ | with_reducible first | refine lwV_out ?_ | refine lwV_out0 ?_ | refine lkC_out ?_ | refine And.intro (by omega) ?_ | fail); exact hk'))) | (apply vopsQ_gf'; (case hd => rfl); (case h1 => rfl); (case h2 => rfl); (case h3 => simp (disch := first | omega | assumption) only [↓reduceIte, go_sem])) | (apply vopsQ_gj; (case hd => rfl); (case h1 => rfl); (case h2 => rfl); (case h3 => simp (disch := first | omega | assumption) only [↓reduceIte, go_sem])) | (apply vopsQ_gpk; (case hd => rfl); (case h1 => rfl); (case h2 => rfl); (case h3 => simp (disch := first | omega | assumption) only [↓reduceIte, go_sem]); (case k1 => simp (disch := first | omega | assumption) only [↓reduceIte, go_sem]); (case k2 => simp (disch := first | omega | assumption) only [↓reduceIte, go_sem]); (case k3 => simp (disch := first | omega | assumption) only [↓reduceIte, go_sem]); (case hb => (intro hc; (try simp (disch := first | omega | assumption) only [↓reduceIte, go_sem] at hc); simp (disch := first | omega | assumption) only [↓reduceIte, go_sem, hc])); (try simp (disch := first | omega | assumption) only [↓reduceIte, go_sem])) | (apply vopsQ_gu; (case hd => rfl); (case h1 => rfl); (case h2 => rfl); (case h3 => simp (disch := first | omega | assumption) only [↓reduceIte, go_sem]); (case hq => (intro hc K' hk'; (try simp (disch := first | omega | assumption) only [↓reduceIte, go_sem] at hc); repeat (first | simp (maxSteps := 4000000) (disch := first | omega | assumption) only [↓reduceIte, go_sem, hc] | with_reducible refine Gst.now ?_ | with_reducible refine vawp_draw mixed (by kernel_rfl) ?_ | with_reducible first | refine lwV_out ?_ | refine lwV_out0 ?_ | refine lkC_out ?_ | refine And.intro (by omega) ?_ | fail); exact hk')); (try simp (disch := first | omega | assumption) only [↓reduceIte, go_sem])) | fail)
  first | (apply vopsQ_n; (case hd => rfl)) | (apply vopsQ_gt; (case hd => rfl); (case h1 => rfl); (case h2 => rfl); (case h3 => simp (disch := first | omega | assumption) only [↓reduceIte, go_sem]))
  case hq => (intro K' hk'; repeat (first | simp (maxSteps := 4000000) (disch := first | omega | assumption) only [↓reduceIte, go_sem] | with_reducible refine Gst.now ?_ | with_reducible refine vawp_draw mixed (by kernel_rfl) ?_ | with_reducible first | refine lwV_out ?_ | refine lwV_out0 ?_ | refine lkC_out ?_ | refine And.intro (by omega) ?_ | fail); refine call_ok ?_; refine numbers_v ?_; exact hk')
  repeat (first | (apply vopsQ_pk; (case hd => rfl); (case h1 => simp (disch := first | omega | assumption) only [↓reduceIte, go_sem]); (case h2 => simp (disch := first | omega | assumption) only [↓reduceIte, go_sem]); (case h3 => simp (disch := first | omega | assumption) only [↓reduceIte, go_sem]); (case hb => simp (disch := first | omega | assumption) only [↓reduceIte, go_sem]); (try simp (disch := first | omega | assumption) only [↓reduceIte, go_sem])) | (apply vopsQ_n; (case hd => rfl); (case hq => (intro K' hk'; repeat (first | simp (maxSteps := 4000000) (disch := first | omega | assumption) only [↓reduceIte, go_sem] | with_reducible refine Gst.now ?_ | with_reducible refine vawp_draw mixed (by kernel_rfl) ?_ | with_reducible first | refine lwV_out ?_ | refine lwV_out0 ?_ | refine lkC_out ?_ | refine And.intro (by omega) ?_ | fail); exact hk'))) | (apply vopsQ_gt; (case hd => rfl); (case h1 => rfl); (case h2 => rfl); (case h3 => simp (disch := first | omega | assumption) only [↓reduceIte, go_sem]); (case hq => (intro K' hk'; repeat (first | simp (maxSteps := 4000000) (disch := first | omega | assumption) only [↓reduceIte, go_sem] | with_reducible refine Gst.now ?_ | with_reducible refine vawp_draw mixed (by kernel_rfl) ?_ | with_reducible first | refine lwV_out ?_ | refine lwV_out0 ?_ | refine lkC_out ?_ | refine And.intro (by omega) ?_ | fail); exact hk'))) | (apply vopsQ_gf'; (case hd => rfl); (case h1 => rfl); (case h2 => rfl); (case h3 => simp (disch := first | omega | assumption) only [↓reduceIte, go_sem])) | (apply vopsQ_gj; (case hd => rfl); (case h1 => rfl); (case h2 => rfl); (case h3 => simp (disch := first | omega | assumption) only [↓reduceIte, go_sem])) | (apply vopsQ_gpk; (case hd => rfl); (case h1 => rfl); (case h2 => rfl); (case h3 => simp (disch := first | omega | assumption) only [↓reduceIte, go_sem]); (case k1 => simp (disch := first | omega | assumption) only [↓reduceIte, go_sem]); (case k2 => simp (disch := first | omega | assumption) only [↓reduceIte, go_sem]); (case k3 => simp (disch := first | omega | assumption) only [↓reduceIte, go_sem]); (case hb => (intro hc; (try simp (disch := first | omega | assumption) only [↓reduceIte, go_sem] at hc); simp (disch := first | omega | assumption) only [↓reduceIte, go_sem, hc])); (try simp (disch := first | omega | assumption) only [↓reduceIte, go_sem])) | (apply vopsQ_gu; (case hd => rfl); (case h1 => rfl); (case h2 => rfl); (case h3 => simp (disch := first | omega | assumption) only [↓reduceIte, go_sem]); (case hq => (intro hc K' hk'; (try simp (disch := first | omega | assumption) only [↓reduceIte, go_sem] at hc); repeat (first | simp (maxSteps := 4000000) (disch := first | omega | assumption) only [↓reduceIte, go_sem, hc] | with_reducible refine Gst.now ?_ | with_reducible refine vawp_draw mixed (by kernel_rfl) ?_ | with_reducible first | refine lwV_out ?_ | refine lwV_out0 ?_ | refine lkC_out ?_ | refine And.intro (by omega) ?_ | fail); exact hk')); (try simp (disch := first | omega | assumption) only [↓reduceIte, go_sem])) | fail)
  first | (apply vopsQ_n; (case hd => rfl)) | (apply vopsQ_gt; (case hd => rfl); (case h1 => rfl); (case h2 => rfl); (case h3 => simp (disch := first | omega | assumption) only [↓reduceIte, go_sem]))
  case hq => (intro K' hk'; repeat (first | simp (maxSteps := 4000000) (disch := first | omega | assumption) only [↓reduceIte, go_sem] | with_reducible refine Gst.now ?_ | with_reducible refine vawp_draw mixed (by kernel_rfl) ?_ | with_reducible first | refine lwV_out ?_ | refine lwV_out0 ?_ | refine lkC_out ?_ | refine And.intro (by omega) ?_ | fail); refine call_ok ?_; refine numbers_v ?_; exact hk')
  repeat (first | (apply vopsQ_pk; (case hd => rfl); (case h1 => simp (disch := first | omega | assumption) only [↓reduceIte, go_sem]); (case h2 => simp (disch := first | omega | assumption) only [↓reduceIte, go_sem]); (case h3 => simp (disch := first | omega | assumption) only [↓reduceIte, go_sem]); (case hb => simp (disch := first | omega | assumption) only [↓reduceIte, go_sem]); (try simp (disch := first | omega | assumption) only [↓reduceIte, go_sem])) | (apply vopsQ_n; (case hd => rfl); (case hq => (intro K' hk'; repeat (first | simp (maxSteps := 4000000) (disch := first | omega | assumption) only [↓reduceIte, go_sem] | with_reducible refine Gst.now ?_ | with_reducible refine vawp_draw mixed (by kernel_rfl) ?_ | with_reducible first | refine lwV_out ?_ | refine lwV_out0 ?_ | refine lkC_out ?_ | refine And.intro (by omega) ?_ | fail); exact hk'))) | (apply vopsQ_gt; (case hd => rfl); (case h1 => rfl); (case h2 => rfl); (case h3 => simp (disch := first | omega | assumption) only [↓reduceIte, go_sem]); (case hq => (intro K' hk'; repeat (first | simp (maxSteps := 4000000) (disch := first | omega | assumption) only [↓reduceIte, go_sem] | with_reducible refine Gst.now ?_ | with_reducible refine vawp_draw mixed (by kernel_rfl) ?_ | with_reducible first | refine lwV_out ?_ | refine lwV_out0 ?_ | refine lkC_out ?_ | refine And.intro (by omega) ?_ | fail); exact hk'))) | (apply vopsQ_gf'; (case hd => rfl); (case h1 => rfl); (case h2 => rfl); (case h3 => simp (disch := first | omega | assumption) only [↓reduceIte, go_sem])) | (apply vopsQ_gj; (case hd => rfl); (case h1 => rfl); (case h2 => rfl); (case h3 => simp (disch := first | omega | assumption) only [↓reduceIte, go_sem])) | (apply vopsQ_gpk; (case hd => rfl); (case h1 => rfl); (case h2 => rfl); (case h3 => simp (disch := first | omega | assumption) only [↓reduceIte, go_sem]); (case k1 => simp (disch := first | omega | assumption) only [↓reduceIte, go_sem]); (case k2 => simp (disch := first | omega | assumption) only [↓reduceIte, go_sem]); (case k3 => simp (disch := first | omega | assumption) only [↓reduceIte, go_sem]); (case hb => (intro hc; (try simp (disch := first | omega | assumption) only [↓reduceIte, go_sem] at hc); simp (disch := first | omega | assumption) only [↓reduceIte, go_sem, hc])); (try simp (disch := first | omega | assumption) only [↓reduceIte, go_sem])) | (apply vopsQ_gu; (case hd => rfl); (case h1 => rfl); (case h2 => rfl); (case h3 => simp (disch := first | omega | assumption) only [↓reduceIte, go_sem]); (case hq => (intro hc K' hk'; (try simp (disch := first | omega | assumption) only [↓reduceIte, go_sem] at hc); repeat (first | simp (maxSteps := 4000000) (disch := first | omega | assumption) only [↓reduceIte, go_sem, hc] | with_reducible refine Gst.now ?_ | with_reducible refine vawp_draw mixed (by kernel_rfl) ?_ | with_reducible first | refine lwV_out ?_ | refine lwV_out0 ?_ | refine lkC_out ?_ | refine And.intro (by omega) ?_ | fail); exact hk')); (try simp (disch := first | omega | assumption) only [↓reduceIte, go_sem])) | fail)
  simp only [vopsQ_nil]
  refine vany_end (by kernel_rfl) ?_
  have l1 : (nums a).length = 6 := rfl
  have l2 : (nums b).length = 6 := rfl
  generalize nums a = xs at *
  generalize nums b = ys at *
  repeat (first | (simp (maxSteps := 1000000) only [↓reduceIte, go_sem]) | (simp (maxSteps := 1000000) (disch := first | omega | assumption) only [BB]) | with_reducible refine Gst.now ?_ | with_reducible refine vawp_draw mixed (by kernel_rfl) ?_ | with_reducible first | refine lwV_out ?_ | refine lwV_out0 ?_ | refine lkC_out ?_ | refine And.intro (by omega) ?_ | fail)
  refine vawp_loop (k := 6) (fun k ρ h1 => ∃ i : Nat, k + i = 6 ∧ ρ 5 = .isl false 6 (xs.map (ivI .i64)) ∧ ρ 6 = .isl false 6 (ys.map (ivI .i64)) ∧ ρ 7 = (.sc (.int .i64 (i))) ∧ cmpL xs ys = cmpL (xs.drop i) (ys.drop i) ∧ h1 = hset (hset h j (.cells 23 false (sC a))) p (.cells 23 false (sC b))) ?_ ?_
  · refine ⟨0, by omega, ?_⟩
    repeat (first | (simp (maxSteps := 1000000) only [↓reduceIte, go_sem]) | (simp (maxSteps := 1000000) (disch := first | omega | assumption) only [BB]) | with_reducible refine Gst.now ?_ | with_reducible refine vawp_draw mixed (by kernel_rfl) ?_ | with_reducible first | refine lwV_out ?_ | refine lwV_out0 ?_ | refine lkC_out ?_ | refine And.intro (by omega) ?_ | fail)
  · rintro k ρ h1 ⟨i, hki, g5, g6, g7, ho, rfl⟩
    repeat (first | (simp (maxSteps := 1000000) only [↓reduceIte, go_sem, g5, g6, g7]) | (simp (maxSteps := 1000000) (disch := first | omega | assumption) only [BB, g5, g6, g7]) | with_reducible refine Gst.now ?_ | with_reducible refine vawp_draw mixed (by kernel_rfl) ?_ | with_reducible first | refine lwV_out ?_ | refine lwV_out0 ?_ | refine lkC_out ?_ | refine And.intro (by omega) ?_ | fail)
    split
    · have hi : i < 6 := by omega
      rw [cmpL_drop (by omega) (by omega)] at ho
      repeat (first | (simp (maxSteps := 1000000) only [↓reduceIte, go_sem, g5, g6, g7]) | (simp (maxSteps := 1000000) (disch := first | omega | assumption) only [BB, g5, g6, g7]) | with_reducible refine Gst.now ?_ | with_reducible refine vawp_draw mixed (by kernel_rfl) ?_ | with_reducible first | refine lwV_out ?_ | refine lwV_out0 ?_ | refine lkC_out ?_ | refine And.intro (by omega) ?_ | fail)
      split
      · rename_i hz
        rw [ho, if_pos (by simpa using hz)] at hK
        repeat (first | (simp (maxSteps := 1000000) only [↓reduceIte, go_sem, g5, g6, g7]) | (simp (maxSteps := 1000000) (disch := first | omega | assumption) only [BB, g5, g6, g7]) | with_reducible refine Gst.now ?_ | with_reducible refine vawp_draw mixed (by kernel_rfl) ?_ | with_reducible first | refine lwV_out ?_ | refine lwV_out0 ?_ | refine lkC_out ?_ | refine And.intro (by omega) ?_ | fail)
        refine hq _ _ ?_
        repeat (first | (simp (maxSteps := 1000000) only [↓reduceIte, go_sem, g5, g6, g7]) | (simp (maxSteps := 1000000) (disch := first | omega | assumption) only [BB, g5, g6, g7]) | with_reducible refine Gst.now ?_ | with_reducible refine vawp_draw mixed (by kernel_rfl) ?_ | with_reducible first | refine lwV_out ?_ | refine lwV_out0 ?_ | refine lkC_out ?_ | refine And.intro (by omega) ?_ | fail)
        refine .drop p (.drop j ?_)
        refine FrK.now (hcast (hK) ?_)
        first | rfl | (funext i; simp only [hset, hdel]; repeat' split) <;> (first | rfl | (subst_vars; simp_all [hset, hdel]; done) | (subst_vars; exfalso; simp_all [hset, hdel]; done))
      · rename_i hz
        rw [if_neg (by simpa using hz)] at ho
        repeat (first | (simp (maxSteps := 1000000) only [↓reduceIte, go_sem, g5, g6, g7]) | (simp (maxSteps := 1000000) (disch := first | omega | assumption) only [BB, g5, g6, g7]) | with_reducible refine Gst.now ?_ | with_reducible refine vawp_draw mixed (by kernel_rfl) ?_ | with_reducible first | refine lwV_out ?_ | refine lwV_out0 ?_ | refine lkC_out ?_ | refine And.intro (by omega) ?_ | fail)
        split
        · rename_i hz
          rw [ho, if_pos (by simpa using hz)] at hK
          repeat (first | (simp (maxSteps := 1000000) only [↓reduceIte, go_sem, g5, g6, g7]) | (simp (maxSteps := 1000000) (disch := first | omega | assumption) only [BB, g5, g6, g7]) | with_reducible refine Gst.now ?_ | with_reducible refine vawp_draw mixed (by kernel_rfl) ?_ | with_reducible first | refine lwV_out ?_ | refine lwV_out0 ?_ | refine lkC_out ?_ | refine And.intro (by omega) ?_ | fail)
          refine hq _ _ ?_
          repeat (first | (simp (maxSteps := 1000000) only [↓reduceIte, go_sem, g5, g6, g7]) | (simp (maxSteps := 1000000) (disch := first | omega | assumption) only [BB, g5, g6, g7]) | with_reducible refine Gst.now ?_ | with_reducible refine vawp_draw mixed (by kernel_rfl) ?_ | with_reducible first | refine lwV_out ?_ | refine lwV_out0 ?_ | refine lkC_out ?_ | refine And.intro (by omega) ?_ | fail)
          refine .drop p (.drop j ?_)
          refine FrK.now (hcast (hK) ?_)
          first | rfl | (funext i; simp only [hset, hdel]; repeat' split) <;> (first | rfl | (subst_vars; simp_all [hset, hdel]; done) | (subst_vars; exfalso; simp_all [hset, hdel]; done))
        · rename_i hz
          rw [if_neg (by simpa using hz)] at ho
          repeat (first | (simp (maxSteps := 1000000) only [↓reduceIte, go_sem, g5, g6, g7]) | (simp (maxSteps := 1000000) (disch := first | omega | assumption) only [BB, g5, g6, g7]) | with_reducible refine Gst.now ?_ | with_reducible refine vawp_draw mixed (by kernel_rfl) ?_ | with_reducible first | refine lwV_out ?_ | refine lwV_out0 ?_ | refine lkC_out ?_ | refine And.intro (by omega) ?_ | fail)
          refine ⟨k - 1, by omega, i + 1, by omega, ?_⟩
          repeat (first | (simp (maxSteps := 1000000) only [↓reduceIte, go_sem, g5, g6, g7]) | (simp (maxSteps := 1000000) (disch := first | omega | assumption) only [BB, g5, g6, g7]) | with_reducible refine Gst.now ?_ | with_reducible refine vawp_draw mixed (by kernel_rfl) ?_ | with_reducible first | refine lwV_out ?_ | refine lwV_out0 ?_ | refine lkC_out ?_ | refine And.intro (by omega) ?_ | fail)
          exact ho
    · repeat (first | (simp (maxSteps := 1000000) only [↓reduceIte, go_sem, g5, g6, g7]) | (simp (maxSteps := 1000000) (disch := first | omega | assumption) only [BB, g5, g6, g7]) | with_reducible refine Gst.now ?_ | with_reducible refine vawp_draw mixed (by kernel_rfl) ?_ | with_reducible first | refine lwV_out ?_ | refine lwV_out0 ?_ | refine lkC_out ?_ | refine And.intro (by omega) ?_ | fail)
      refine hq _ _ ?_
      repeat (first | (simp (maxSteps := 1000000) only [↓reduceIte, go_sem, g5, g6, g7]) | (simp (maxSteps := 1000000) (disch := first | omega | assumption) only [BB, g5, g6, g7]) | with_reducible refine Gst.now ?_ | with_reducible refine vawp_draw mixed (by kernel_rfl) ?_ | with_reducible first | refine lwV_out ?_ | refine lwV_out0 ?_ | refine lkC_out ?_ | refine And.intro (by omega) ?_ | fail)
      rw [ho, List.drop_eq_nil_of_le (by omega)] at hK
      refine .drop p (.drop j ?_)
      refine FrK.now (hcast (hK) ?_)
      first | rfl | (funext i; simp only [hset, hdel]; repeat' split) <;> (first | rfl | (subst_vars; simp_all [hset, hdel]; done) | (subst_vars; exfalso; simp_all [hset, hdel]; done))
/-! ### plain facts -/
theorem cmpL_rng : ∀ xs ys : List Int, -1 ≤ cmpL xs ys ∧ cmpL xs ys ≤ 1
  | [], ys => by simp [cmpL]
  | x :: xs, [] => by simp [cmpL]
  | x :: xs, y :: ys => by
    have := cmpL_rng xs ys
    simp only [cmpL]
    split
    · omega
    · split <;> omega
theorem cmpL_anti : ∀ xs ys : List Int, cmpL ys xs = -cmpL xs ys
  | [], ys => by cases ys <;> simp [cmpL]
  | x :: xs, [] => by simp [cmpL]
  | x :: xs, y :: ys => by
    have := cmpL_anti xs ys
    simp only [cmpL]
    by_cases h1 : x < y
    · rw [if_neg (show ¬ y < x by omega), if_pos h1, if_pos h1]; rfl
    · by_cases h2 : y < x
      · rw [if_pos h2, if_neg h1, if_pos h2]
      · rw [if_neg h2, if_neg h1, if_neg h1, if_neg h2]; exact this
theorem cmpL_self : ∀ xs : List Int, cmpL xs xs = 0
  | [] => rfl
  | x :: xs => by simp [cmpL, cmpL_self xs]
theorem cmpL_eq : ∀ {xs ys : List Int}, xs.length = ys.length → cmpL xs ys = 0 → xs = ys
  | [], ys, hl, _ => (List.eq_nil_of_length_eq_zero hl.symm).symm
  | x :: xs, [], hl, _ => by simp at hl
  | x :: xs, y :: ys, hl, h => by
    simp only [cmpL] at h
    split at h
    · cases h
    · split at h
      · cases h
      · rw [cmpL_eq (by simpa using hl) h, show x = y by omega]
theorem cmpL_lt : ∀ {xs ys zs : List Int}, xs.length = ys.length → ys.length = zs.length → cmpL xs ys < 0 → cmpL ys zs < 0 → cmpL xs zs < 0
  | [], ys, zs, _, _, h, _ => by simp [cmpL] at h
  | x :: xs, [], zs, hl, _, _, _ => by simp at hl
  | x :: xs, y :: ys, [], _, hl, _, _ => by simp at hl
  | x :: xs, y :: ys, z :: zs, h1, h2, h3, h4 => by
    have ih := cmpL_lt (xs := xs) (ys := ys) (zs := zs) (by simpa using h1) (by simpa using h2)
    simp only [cmpL] at h3 h4 ⊢
    split at h3
    · split at h4
      · rw [if_pos (by omega)]; decide
      · split at h4
        · omega
        · rw [if_pos (by omega)]; decide
    · split at h3
      · omega
      · split at h4
        · rw [if_pos (by omega)]; decide
        · split at h4
          · omega
          · rw [if_neg (by omega), if_neg (by omega)]; exact ih h3 h4
theorem nums_inj {a b : StV} (h : nums a = nums b) : a = b := by
  cases a; cases b
  simp only [nums, List.cons.injEq] at h
  simp only [StV.mk.injEq]
  exact ⟨h.1, h.2.1, h.2.2.1, h.2.2.2.1, h.2.2.2.2.1, h.2.2.2.2.2.1⟩
theorem un_pack {t : StV} (hr : rightB t = true) : unS (packD t).toNat (packT t).toNat = t := by
  obtain ⟨a, b, c, d, e, f, g⟩ := right_iff.1 hr
  have hd := daysI_le t.y t.m
  have hb := pack_b hr
  have g' : t.s % 2 = 0 := by rwa [Int.tmod_eq_emod_of_nonneg f.1] at g
  cases t
  simp only [unS, packD, packT, StV.mk.injEq] at *
  refine ⟨?_, ?_, ?_, ?_, ?_, ?_⟩ <;> omega
theorem pack_un {d m : Nat} (hr : rightB (unS d m) = true) : packD (unS d m) = d ∧ packT (unS d m) = m := by
  simp only [unS, packD, packT]
  omega
theorem pack_lt {a b : StV} (ha : rightB a = true) (hb : rightB b = true) : cmpS a b < 0 ↔ packD a < packD b ∨ (packD a = packD b ∧ packT a < packT b) := by
  obtain ⟨a1, a2, a3, a4, a5, a6, a7⟩ := right_iff.1 ha
  obtain ⟨b1, b2, b3, b4, b5, b6, b7⟩ := right_iff.1 hb
  have hd := daysI_le a.y a.m
  have hd2 := daysI_le b.y b.m
  rw [Int.tmod_eq_emod_of_nonneg a6.1] at a7
  rw [Int.tmod_eq_emod_of_nonneg b6.1] at b7
  rw [cmpS_L]
  simp only [nums, cmpL, packD, packT]
  generalize daysI a.y a.m = x at *
  generalize daysI b.y b.m = y at *
  repeat' split
  all_goals (constructor <;> intro hh <;> omega)
end
end Go.Proofs.YtcmlfpfbbopclaaDoor.VStampR
