/- the reference of match, over the machine of values: Expand. -/
import Derived.Test.YtipeglbklhincaaDoorProg
import Derived.Test.YtipeglbklhincaaDoorAbV16
import Derived.Test.YtipeglbklhincaaDoorAbFacts
import Derived.Test.YtipeglbklhincaaDoorAbVG
import Derived.Test.YtipeglbklhincaaDoorAbVRow1
import Derived.Test.YtipeglbklhincaaDoorAbVSame
import Derived.Test.YtipeglbklhincaaDoorAbVMatch
import Derived.Test.YtipeglbklhincaaDoorAbVMatchB
import Derived.Test.YtipeglbklhincaaDoorAbVMatchC
import Derived.KernelRfl
import Derived.Laws.BitsAllLaws
set_option linter.unusedVariables false
set_option linter.unusedSimpArgs false
set_option maxRecDepth 100000
set_option maxHeartbeats 4000000
namespace Go.Proofs.YtipeglbklhincaaDoor.VMatchD
open Go.RowKit Go.Proofs.AbM Go.Proofs.YtipeglbklhincaaDoor.Facts Go.Proofs.YtipeglbklhincaaDoor.VG Go.Proofs.YtipeglbklhincaaDoor.VRow1 Go.Proofs.YtipeglbklhincaaDoor.VSame Go.Proofs.YtipeglbklhincaaDoor.VMatch Go.Proofs.YtipeglbklhincaaDoor.VMatchB Go.Proofs.YtipeglbklhincaaDoor.VMatchC
attribute [local go_sem] vawp_skip_eq vawp_seq_eq vawp_region_eq vawp_cond_g vawp_block_eq vawp_exit_eq vawp_ret_eq thenV_ret thenV_exit thenV_normal inBlockV_normal inBlockV_ret inBlockV_exit resKV_nil resKV_tmp resKV_cell oneV_one oneV_nil oneV_more initV_nil initV_cons updV_at evv_tmp evv_func evv_global evv_int evv_bool evv_str evv_snil evv_pnil evv_agg ofV3_int ofV3_bool ofV3_str ofV3_snil ofV3_pnil vok_tmp vok_func vok_global vok_int vok_bool vok_str vok_snil vok_pnil vok_agg cloV3_int cloV3_bool cloV3_str cloV3_snil cloV3_pnil voks_nil voks_cons scV_int scV_bool scV_str isBlV_b isBV_t isBV_f lwV_none lwV_sc lwV_agg lwV_tup lwV_isl lwV_own lwV_op lwV_ip lwV_fn lwV_junk vops_nil vops_n vops_s gsN_eq vop dstOk_some dstOk_none pkV_b blkV_set eRead_f eRead_t vLoad_op vLoad_ip vStore_op cells_sc cells_isl cells_own cells_op cells_ip cells_fn cells_agg parts_sc parts_isl parts_own parts_op parts_ip parts_fn parts_agg one_sc one_isl one_own one_op one_ip one_fn vField_op vField_ip ePart_f ePart_t vFieldV_agg vIx_isl vIx_own vIx_op vIx_ip vIxV_agg vIxV_str vLen_str vLen_isl vLen_own vLen_agg bndE_none bndE_int vSlice_isl vSlice_str vBin_add vBin_sub vBin_mul vBin_quo vBin_rem vBin_and vBin_or vBin_xor vBin_andNot vBin_eql vBin_neq vBin_lss vBin_leq vBin_gtr vBin_geq vBin_shr_i8 vBin_shl_i8 vBin_shr_i16 vBin_shl_i16 vBin_shr_i32 vBin_shl_i32 vBin_shr_i64 vBin_shl_i64 vBin_shr_u8 vBin_shl_u8 vBin_shr_u16 vBin_shl_u16 vBin_shr_u32 vBin_shl_u32 vBin_shr_u64 vBin_shl_u64 vBin_seq vBin_sne vBin_isln vBin_opn vBin_ipn ex_sc ex_sc2 ex_sc3 ex_tup calleeV wSc_pb wSc_pi wSc_not wSc_neg wSc_com wSc_min2 wSc_max2 vfold_nil vfold_one vfold_cons vfill_nil vfill_e eFill_s vBuild vBox vAlloc setV_map setV_zs setV_zn setV_s hset_hset eConv_ss vConv_e iv_eq ivI_eq ex_get ex_getI set_iv set_ivI okNil isNilV isSlV hdel_at hset_at List.map_toArray List.map_cons List.map_nil List.nil_append List.cons_append List.append_nil List.toList_toArray List.getElem?_toArray List.getElem_toArray List.getElem_cons_zero List.getElem_cons_succ List.getElem?_cons_zero List.getElem?_cons_succ List.set_cons_zero List.set_cons_succ List.set_set List.length_cons List.length_nil List.length_set List.length_map List.all_cons List.all_nil List.drop_zero List.drop_succ_cons List.take_succ_cons List.take_zero List.flatMap_cons Bool.and_eq_true true_and and_true if_true if_false ite_true ite_false forall_eq' forall_eq exists_eq_left exists_eq_left' exists_eq' Value.bool.injEq Value.int.injEq Value.string.injEq Value.pointer.injEq Option.some.injEq AV.sc.injEq AV.op.injEq AV.ip.injEq AV.own.injEq AV.agg.injEq VB.cells.injEq VB.iter.injEq Prod.mk.injEq decide_eq_true_eq decide_eq_false_iff_not Nat.reduceEqDiff Nat.reduceLT Nat.reduceLeDiff Nat.reduceSub Nat.reduceBEq reduceIte Int.reduceLE Int.reduceLT Int.reduceToNat Int.reduceNeg Int.reduceEq Int.reduceNe Int.cast_ofNat_Int Nat.reduceMul Nat.reduceAdd Nat.reduceDiv Nat.reduceMod Nat.reducePow Int.reduceSub Int.reduceAdd Int.reduceMul Int.reducePow Option.isSome_some Option.isSome_none Option.bind_some Option.map_some Option.map_none Option.toList_some Option.toList_none true_or or_true or_false false_or Bool.not_true Bool.not_false Bool.not_eq_true Bool.false_eq_true Bool.not_not false_implies true_implies implies_true Nat.zero_add Nat.add_zero Nat.mul_one Bool.not_eq_true' Bool.true_eq_false Bool.and_true Bool.true_and Bool.and_false Bool.false_and Bool.or_true Bool.true_or Bool.or_false Bool.false_or Option.isNone_some Option.isNone_none Int.reduceBEq Int.reduceBNe beq_self_eq_true bne_self_eq_false beq_iff_eq not_false_eq_true not_true_eq_false Decidable.not_not bne_iff_ne ne_eq Int.toNat_natCast gt_lt ge_le c_add c_mul c_sub c_addn c_nadd c_muln c_nmul c_subn c_nsub c_divn c_modn c_div c_mod c_tdivn c_tmodn c_tdiv c_tmod c_pow c_nn c_beq c_beqn c_bne c_bnen wr64 wr32 wru64 wru32 wru16 wru8 c_if c_if1 c_if2 c_lt c_le c_eq c_ltn c_len c_nlt c_nle c_eqn m_drop m_take Nat.add_sub_cancel_left Nat.add_sub_cancel Int.reduceTMod Int.reduceTDiv Int.reduceMod Int.reduceDiv isC_some hset_ne hdel_ne hdel_hset hdel_hset_ne blkV_nset blkV_ndel hset_hdel gV_t gV_f isGdV_b isGdV_u isBV_u isGdV_g isBV_gt isBV_gf decide_true decide_false Bool.or_eq_false_iff eq_self Nat.lt_irrefl Int.lt_irrefl Nat.le_refl Int.le_refl
attribute [local go_sem high] vops_pk vops_mv vops_as vops_smv pk_and pk_or pk_gand pk_gor pk_orn pk_gorn
attribute [local go_sem] ag3 sz3 zc3 ik3 ag4 sz4 zc4 ag5 sz5 zc5 ik5 ag9 sz9 zc9 iq9 ag22 sz22 el22 zc22 is22 ag23 sz23 el23 zc23 is23 ag25 sz25 zc25 ik25 ag41 sz41 zc41 eqs41 nes41 bo41 ag44 sz44 zc44 pt44 ag45 sz45 ea45 an45 zc45 bo45 ag46 sz46 el46 zc46 is46 ag47 sz47 ea47 an47 ag49 sz49 ag55 sz55 zc55 ik55 of41_0 fd41_0 of41_1 fd41_1 of41_2 fd41_2 of49_0 fd49_0 of49_1 fd49_1 of49_2 fd49_2 of49_3 fd49_3 eqb neb
section
variable {n : Nat} {h : VH} {K : AV → VH → Prop}
attribute [local go_sem] Nat.zero_le tokC tok_len
theorem frk_own2 {j : Nat} {e : TypeId} {cs : List AV} {l : Nat} {w : AV} (hj : h j = none) (hK : K (.tup [.isl false l cs, w]) h) : FrK K (.tup [.own j 0 l, w]) (hset h j (.cells e false cs)) := .frz (v' := .tup [.isl false l cs, w]) j (hset_at _ _ _) (.tup rfl (by
  intro i c c' h1 h2
  match i with
  | 0 => simp only [List.getElem?_cons_zero, Option.some.injEq] at h1 h2; subst h1 h2; exact .own _
  | 1 => simp only [List.getElem?_cons_succ, List.getElem?_cons_zero, Option.some.injEq] at h1 h2; subst h1 h2; exact .refl _
  | i + 2 => simp at h1)) (.now (by rw [hdel_hset hj]; exact hK))
theorem rexpand_v {nl : Bool} {l : Nat} {ts : List TokV} {most : Int} (hl : l = ts.length) (hb : ts.length ≤ 140737488355328) (hm2 : most ≤ 2000000) (hK : ∀ nl', K (.tup [.isl nl' (expT ts most []).2.length ((expT ts most []).2.map (iv .u8)), (.sc (.int .i64 (((expT ts most []).1 : Nat))))]) h) : VC Tryd.prog GL (n + 2) 10 [.isl nl l (ts.flatMap tokC), (.sc (.int .i64 (most)))] h K := by
  refine VC_go Tryd.func10 rfl (by decide) Tryd.ntmps10 Tryd.results10 rfl fun Q hq hn => ?_
  subst hl
  repeat (first | (simp (maxSteps := 1000000) only [↓reduceIte, go_sem]) | (simp (maxSteps := 1000000) (disch := first | omega | assumption) only [BB]) | with_reducible refine Gst.now ?_ | with_reducible refine vawp_draw mixed (by kernel_rfl) ?_ | with_reducible first | refine lwV_out ?_ | refine lwV_out0 ?_ | refine lkC_out ?_ | refine And.intro (by omega) ?_ | fail)
  refine vBuildS_o bs23 ?_ ?_ ?_ ?_ ?_
  rfl
  rfl
  rfl
  rfl
  intro j0 hj0
  repeat (first | (simp (maxSteps := 1000000) only [↓reduceIte, go_sem]) | (simp (maxSteps := 1000000) (disch := first | omega | assumption) only [BB]) | with_reducible refine Gst.now ?_ | with_reducible refine vawp_draw mixed (by kernel_rfl) ?_ | with_reducible first | refine lwV_out ?_ | refine lwV_out0 ?_ | refine lkC_out ?_ | refine And.intro (by omega) ?_ | fail)
  refine vawp_loop (k := ts.length) (fun d ρ h1 => ∃ (i : Nat) (out : List Nat), d + i = ts.length ∧ ρ 0 = .isl nl ts.length (ts.flatMap tokC) ∧ ρ 1 = (.sc (.int .i64 (most))) ∧ ρ 7 = (.sc (.int .i64 ((i : Nat)))) ∧ expT ts most [] = expT (ts.drop i) most out ∧ (out.length = 0 ∨ (out.length : Int) ≤ most) ∧ ∃ j, h j = none ∧ ρ 6 = .own j 0 out.length ∧ h1 = hset h j (.cells 5 false (out.map (iv .u8)))) ?_ ?_
  · refine ⟨0, [], by omega, ?_⟩
    repeat (first | (simp (maxSteps := 1000000) only [↓reduceIte, go_sem]) | (simp (maxSteps := 1000000) (disch := first | omega | assumption) only [BB]) | with_reducible refine Gst.now ?_ | with_reducible refine vawp_draw mixed (by kernel_rfl) ?_ | with_reducible first | refine lwV_out ?_ | refine lwV_out0 ?_ | refine lkC_out ?_ | refine And.intro (by omega) ?_ | fail)
    exact ⟨j0, hj0, rfl, rfl⟩
  · rintro d ρ h1 ⟨i, out, hd, g0, g1, g7, hexp, hol, j, hj, g6, rfl⟩
    by_cases hi : i < ts.length
    · have e1 := eq_true hi
      have e3 := tok_at ts i hi
      rw [drop_getT hi, expT_cons] at hexp
      generalize ts.getD i default = t at *
      obtain ⟨tl, tn, td⟩ := t
      simp only at hexp
      repeat (first | (simp (maxSteps := 1000000) only [↓reduceIte, go_sem, g0, g1, g7, g6, e1, e3]) | (simp (maxSteps := 1000000) (disch := first | omega | assumption) only [BB, g0, g1, g7, g6, e1, e3]) | with_reducible refine Gst.now ?_ | with_reducible refine vawp_draw mixed (by kernel_rfl) ?_ | with_reducible first | refine lwV_out ?_ | refine lwV_out0 ?_ | refine lkC_out ?_ | refine And.intro (by omega) ?_ | fail)
      intro z hz
      repeat (first | (simp (maxSteps := 1000000) only [↓reduceIte, go_sem, g0, g1, g7, g6, e1, e3]) | (simp (maxSteps := 1000000) (disch := first | omega | assumption) only [BB, g0, g1, g7, g6, e1, e3]) | with_reducible refine vawp_draw mixed (by kernel_rfl) ?_ | with_reducible first | refine lwV_out ?_ | refine lwV_out0 ?_ | refine lkC_out ?_ | refine And.intro (by omega) ?_ | fail)
      refine .box 8 z hz rfl (.now ?_)
      repeat (first | (simp (maxSteps := 1000000) only [↓reduceIte, go_sem, g0, g1, g7, g6, e1, e3]) | (simp (maxSteps := 1000000) (disch := first | omega | assumption) only [BB, g0, g1, g7, g6, e1, e3]) | with_reducible refine Gst.now ?_ | with_reducible refine vawp_draw mixed (by kernel_rfl) ?_ | with_reducible first | refine lwV_out ?_ | refine lwV_out0 ?_ | refine lkC_out ?_ | refine And.intro (by omega) ?_ | fail)
      split
      · rename_i h0
        have h0 : tn = 0 := by simpa using h0
        rw [if_pos h0] at hexp
        repeat (first | (simp (maxSteps := 1000000) only [↓reduceIte, go_sem, g0, g1, g7, g6, e1, e3]) | (simp (maxSteps := 1000000) (disch := first | omega | assumption) only [BB, g0, g1, g7, g6, e1, e3]) | with_reducible refine Gst.now ?_ | with_reducible refine vawp_draw mixed (by kernel_rfl) ?_ | with_reducible first | refine lwV_out ?_ | refine lwV_out0 ?_ | refine lkC_out ?_ | refine And.intro (by omega) ?_ | fail)
        split
        · rename_i hq0
          rw [if_pos hq0] at hexp
          rw [hexp] at hK
          repeat (first | (simp (maxSteps := 1000000) only [↓reduceIte, go_sem, g0, g1, g7, g6, e1, e3]) | (simp (maxSteps := 1000000) (disch := first | omega | assumption) only [BB, g0, g1, g7, g6, e1, e3]) | with_reducible refine Gst.now ?_ | with_reducible refine vawp_draw mixed (by kernel_rfl) ?_ | with_reducible first | refine lwV_out ?_ | refine lwV_out0 ?_ | refine lkC_out ?_ | refine And.intro (by omega) ?_ | fail)
          refine hq _ _ ?_
          repeat (first | (simp (maxSteps := 1000000) only [↓reduceIte, go_sem, g0, g1, g7, g6, e1, e3]) | (simp (maxSteps := 1000000) (disch := first | omega | assumption) only [BB, g0, g1, g7, g6, e1, e3]) | with_reducible refine Gst.now ?_ | with_reducible refine vawp_draw mixed (by kernel_rfl) ?_ | with_reducible first | refine lwV_out ?_ | refine lwV_out0 ?_ | refine lkC_out ?_ | refine And.intro (by omega) ?_ | fail)
          refine .drop j (.now ?_)
          rw [hdel_hset hj]
          exact hK true
        · rename_i hq0
          rw [if_neg hq0] at hexp
          repeat (first | (simp (maxSteps := 1000000) only [↓reduceIte, go_sem, g0, g1, g7, g6, e1, e3]) | (simp (maxSteps := 1000000) (disch := first | omega | assumption) only [BB, g0, g1, g7, g6, e1, e3]) | with_reducible refine Gst.now ?_ | with_reducible refine vawp_draw mixed (by kernel_rfl) ?_ | with_reducible first | refine lwV_out ?_ | refine lwV_out0 ?_ | refine lkC_out ?_ | refine And.intro (by omega) ?_ | fail)
          refine vBuildS_i bs23 ?_ ?_ ?_ ?_ ?_
          rfl
          rfl
          rfl
          rfl
          repeat (first | (simp (maxSteps := 1000000) only [↓reduceIte, go_sem]) | (simp (maxSteps := 1000000) (disch := first | omega | assumption) only [BB]) | with_reducible refine Gst.now ?_ | with_reducible refine vawp_draw mixed (by kernel_rfl) ?_ | with_reducible first | refine lwV_out ?_ | refine lwV_out0 ?_ | refine lkC_out ?_ | refine And.intro (by omega) ?_ | fail)
          apply vApp_own_isl ap23 (by simp only [go_sem])
          case hv => first | (simp []; done) | (simp []; omega) | rfl | assumption
          case hj => repeat (first | exact hset_at _ _ _ | assumption | refine (hset_ne _ _ (by first | omega | assumption)).trans ?_ | refine (hdel_ne _ (by first | omega | assumption)).trans ?_ | fail)
          case hl => first | (simp []; done) | (simp []; omega) | rfl | assumption
          case h1 => first | omega | (simp []; omega) | (simp []; done)
          case h2 => first | omega | (simp []; omega) | (simp []; done)
          intro j' hj'
          try simp (disch := first | omega | assumption) only [go_sem, hset_none, hdel_none] at hj'
          try simp (disch := first | omega | assumption) only [hset_none, hdel_none] at hj'
          repeat (first | (simp (maxSteps := 1000000) only [↓reduceIte, go_sem, g0, g1, g7, g6, e1, e3]) | (simp (maxSteps := 1000000) (disch := first | omega | assumption) only [BB, g0, g1, g7, g6, e1, e3]) | with_reducible refine Gst.now ?_ | with_reducible refine vawp_draw mixed (by kernel_rfl) ?_ | with_reducible first | refine lwV_out ?_ | refine lwV_out0 ?_ | refine lkC_out ?_ | refine And.intro (by omega) ?_ | fail)
          exact ⟨d - 1, by omega, i + 1, out ++ [tl], by omega, rfl, hexp, .inr (by simp only [List.length_append, List.length_singleton]; omega), j', by simp [hj'], by simp, by rw [List.map_append]; rfl⟩
      · rename_i h0
        have h0 : ¬ tn = 0 := by simpa using h0
        rw [if_neg h0] at hexp
        repeat (first | (simp (maxSteps := 1000000) only [↓reduceIte, go_sem, g0, g1, g7, g6, e1, e3]) | (simp (maxSteps := 1000000) (disch := first | omega | assumption) only [BB, g0, g1, g7, g6, e1, e3]) | with_reducible refine vawp_draw mixed (by kernel_rfl) ?_ | with_reducible first | refine lwV_out ?_ | refine lwV_out0 ?_ | refine lkC_out ?_ | refine And.intro (by omega) ?_ | fail)
        first | (with_reducible refine Gst.now ?_) | (with_reducible refine lkC_out ?_; simp only [vawp_skip_eq, thenV_normal]; with_reducible refine Gst.now ?_) | (with_reducible refine lkC_out ?_)
        try simp only [vawp_seq_eq, vawp_block_eq]
        with_reducible refine vawp_regq ?_
        simp only [List.toList_toArray]
        repeat (first | (apply vopsQ_pk; (case hd => rfl); (case h1 => simp (disch := first | omega | assumption) only [↓reduceIte, go_sem, g0, g1, g7, g6, e1, e3]); (case h2 => simp (disch := first | omega | assumption) only [↓reduceIte, go_sem, g0, g1, g7, g6, e1, e3]); (case h3 => simp (disch := first | omega | assumption) only [↓reduceIte, go_sem, g0, g1, g7, g6, e1, e3]); (case hb => simp (disch := first | omega | assumption) only [↓reduceIte, go_sem, g0, g1, g7, g6, e1, e3]); (try simp (disch := first | omega | assumption) only [↓reduceIte, go_sem, g0, g1, g7, g6, e1, e3])) | (apply vopsQ_n; (case hd => rfl); (case hq => (intro K' hk'; repeat (first | simp (maxSteps := 4000000) (disch := first | omega | assumption) only [↓reduceIte, go_sem, g0, g1, g7, g6, e1, e3] | with_reducible refine Gst.now ?_ | with_reducible refine vawp_draw mixed (by kernel_rfl) ?_ | with_reducible first | refine lwV_out ?_ | refine lwV_out0 ?_ | refine lkC_out ?_ | refine And.intro (by omega) ?_ | fail); exact hk'))) | (apply vopsQ_gt; (case hd => rfl); (case h1 => rfl); (case h2 => rfl); (case h3 => simp (disch := first | omega | assumption) only [↓reduceIte, go_sem]); (case hq => (intro K' hk'; repeat (first | simp (maxSteps := 4000000) (disch := first | omega | assumption) only [↓reduceIte, go_sem, g0, g1, g7, g6, e1, e3] | with_reducible refine Gst.now ?_ | with_reducible refine vawp_draw mixed (by kernel_rfl) ?_ | with_reducible first | refine lwV_out ?_ | refine lwV_out0 ?_ | refine lkC_out ?_ | refine And.intro (by omega) ?_ | fail); exact hk'))) | (apply vopsQ_gf'; (case hd => rfl); (case h1 => rfl); (case h2 => rfl); (case h3 => simp (disch := first | omega | assumption) only [↓reduceIte, go_sem, g0, g1, g7, g6, e1, e3])) | (apply vopsQ_gj; (case hd => rfl); (case h1 => rfl); (case h2 => rfl); (case h3 => simp (disch := first | omega | assumption) only [↓reduceIte, go_sem, g0, g1, g7, g6, e1, e3])) | (apply vopsQ_gpk; (case hd => rfl); (case h1 => rfl); (case h2 => rfl); (case h3 => simp (disch := first | omega | assumption) only [↓reduceIte, go_sem, g0, g1, g7, g6, e1, e3]); (case k1 => simp (disch := first | omega | assumption) only [↓reduceIte, go_sem, g0, g1, g7, g6, e1, e3]); (case k2 => simp (disch := first | omega | assumption) only [↓reduceIte, go_sem, g0, g1, g7, g6, e1, e3]); (case k3 => simp (disch := first | omega | assumption) only [↓reduceIte, go_sem, g0, g1, g7, g6, e1, e3]); (case hb => (intro hc; (try simp (disch := first | omega | assumption) only [↓reduceIte, go_sem, g0, g1, g7, g6, e1, e3] at hc); simp (disch := first | omega | assumption) only [↓reduceIte, go_sem, hc, g0, g1, g7, g6, e1, e3])); (try simp (disch := first | omega | assumption) only [↓reduceIte, go_sem, g0, g1, g7, g6, e1, e3])) | (apply vopsQ_gu; (case hd => rfl); (case h1 => rfl); (case h2 => rfl); (case h3 => simp (disch := first | omega | assumption) only [↓reduceIte, go_sem, g0, g1, g7, g6, e1, e3]); (case hq => (intro hc K' hk'; (try simp (disch := first | omega | assumption) only [↓reduceIte, go_sem, g0, g1, g7, g6, e1, e3] at hc); repeat (first | simp (maxSteps := 4000000) (disch := first | omega | assumption) only [↓reduceIte, go_sem, hc, g0, g1, g7, g6, e1, e3] | with_reducible refine Gst.now ?_ | with_reducible refine vawp_draw mixed (by kernel_rfl) ?_ | with_reducible first | refine lwV_out ?_ | refine lwV_out0 ?_ | refine lkC_out ?_ | refine And.intro (by omega) ?_ | fail); exact hk')); (try simp (disch := first | omega | assumption) only [↓reduceIte, go_sem, g0, g1, g7, g6, e1, e3])) | fail)
        simp only [vopsQ_nil]
        repeat (first | (simp (maxSteps := 1000000) only [↓reduceIte, go_sem, g0, g1, g7, g6, e1, e3]) | (simp (maxSteps := 1000000) (disch := first | omega | assumption) only [BB, g0, g1, g7, g6, e1, e3]) | with_reducible refine Gst.now ?_ | with_reducible refine vawp_draw mixed (by kernel_rfl) ?_ | with_reducible first | refine lwV_out ?_ | refine lwV_out0 ?_ | refine lkC_out ?_ | refine And.intro (by omega) ?_ | fail)
        split
        · rename_i hc
          have hc1 : ckT ⟨tl, tn, td⟩ out.length = 23 := by unfold ckT; exact if_pos (by simpa [or_assoc] using hc)
          rw [if_pos (by rw [hc1]; decide), hc1] at hexp
          rw [hexp] at hK
          repeat (first | (simp (maxSteps := 1000000) only [↓reduceIte, go_sem, g0, g1, g7, g6, e1, e3]) | (simp (maxSteps := 1000000) (disch := first | omega | assumption) only [BB, g0, g1, g7, g6, e1, e3]) | with_reducible refine Gst.now ?_ | with_reducible refine vawp_draw mixed (by kernel_rfl) ?_ | with_reducible first | refine lwV_out ?_ | refine lwV_out0 ?_ | refine lkC_out ?_ | refine And.intro (by omega) ?_ | fail)
          refine hq _ _ ?_
          repeat (first | (simp (maxSteps := 1000000) only [↓reduceIte, go_sem, g0, g1, g7, g6, e1, e3]) | (simp (maxSteps := 1000000) (disch := first | omega | assumption) only [BB, g0, g1, g7, g6, e1, e3]) | with_reducible refine Gst.now ?_ | with_reducible refine vawp_draw mixed (by kernel_rfl) ?_ | with_reducible first | refine lwV_out ?_ | refine lwV_out0 ?_ | refine lkC_out ?_ | refine And.intro (by omega) ?_ | fail)
          refine .drop j (.now ?_)
          rw [hdel_hset hj]
          exact hK true
        · rename_i hc
          have hc1 : ckT ⟨tl, tn, td⟩ out.length = if (out.length : Int) < td then 35 else 0 := by unfold ckT; exact if_neg (by simpa [and_assoc] using hc)
          repeat (first | (simp (maxSteps := 1000000) only [↓reduceIte, go_sem, g0, g1, g7, g6, e1, e3]) | (simp (maxSteps := 1000000) (disch := first | omega | assumption) only [BB, g0, g1, g7, g6, e1, e3]) | with_reducible refine Gst.now ?_ | with_reducible refine vawp_draw mixed (by kernel_rfl) ?_ | with_reducible first | refine lwV_out ?_ | refine lwV_out0 ?_ | refine lkC_out ?_ | refine And.intro (by omega) ?_ | fail)
          split
          · rename_i hq0
            rw [if_pos hq0] at hc1
            rw [if_pos (by rw [hc1]; decide), hc1] at hexp
            rw [hexp] at hK
            repeat (first | (simp (maxSteps := 1000000) only [↓reduceIte, go_sem, g0, g1, g7, g6, e1, e3]) | (simp (maxSteps := 1000000) (disch := first | omega | assumption) only [BB, g0, g1, g7, g6, e1, e3]) | with_reducible refine Gst.now ?_ | with_reducible refine vawp_draw mixed (by kernel_rfl) ?_ | with_reducible first | refine lwV_out ?_ | refine lwV_out0 ?_ | refine lkC_out ?_ | refine And.intro (by omega) ?_ | fail)
            refine hq _ _ ?_
            repeat (first | (simp (maxSteps := 1000000) only [↓reduceIte, go_sem, g0, g1, g7, g6, e1, e3]) | (simp (maxSteps := 1000000) (disch := first | omega | assumption) only [BB, g0, g1, g7, g6, e1, e3]) | with_reducible refine Gst.now ?_ | with_reducible refine vawp_draw mixed (by kernel_rfl) ?_ | with_reducible first | refine lwV_out ?_ | refine lwV_out0 ?_ | refine lkC_out ?_ | refine And.intro (by omega) ?_ | fail)
            refine .drop j (.now ?_)
            rw [hdel_hset hj]
            exact hK true
          · rename_i hq0
            rw [if_neg hq0] at hc1
            rw [if_neg (by rw [hc1]; decide)] at hexp
            obtain ⟨q1, q2, q3, q4, q5⟩ := ckT_zero hc1
            simp only at q1 q2 q3 q4 q5
            obtain ⟨m, rfl⟩ := Int.eq_ofNat_of_zero_le (a := tn) (by omega)
            obtain ⟨dd, rfl⟩ := Int.eq_ofNat_of_zero_le (a := td) (by omega)
            simp only [Int.toNat_natCast] at hexp
            repeat (first | (simp (maxSteps := 1000000) only [↓reduceIte, go_sem, g0, g1, g7, g6, e1, e3]) | (simp (maxSteps := 1000000) (disch := first | omega | assumption) only [BB, g0, g1, g7, g6, e1, e3]) | with_reducible refine Gst.now ?_ | with_reducible refine vawp_draw mixed (by kernel_rfl) ?_ | with_reducible first | refine lwV_out ?_ | refine lwV_out0 ?_ | refine lkC_out ?_ | refine And.intro (by omega) ?_ | fail)
            refine vawp_loop (k := m) (fun c ρ h2 => ∃ k : Nat, c + k = m ∧ ρ 0 = .isl nl ts.length (ts.flatMap tokC) ∧ ρ 1 = (.sc (.int .i64 (most))) ∧ ρ 7 = (.sc (.int .i64 ((i : Nat)))) ∧ ρ 8 = .ip [(.sc (.int .u8 ((tl : Nat)))), (.sc (.int .i64 ((m : Nat)))), (.sc (.int .i64 ((dd : Nat))))] 0 ∧ ρ 9 = (.sc (.int .i64 ((k : Nat)))) ∧ (out.length + k : Int) ≤ max most out.length ∧ ∃ j, h j = none ∧ ρ 6 = .own j 0 (out.length + k) ∧ h2 = hset h j (.cells 5 false ((copyN out dd k).map (iv .u8)))) ?_ ?_
            · refine ⟨0, by omega, ?_⟩
              repeat (first | (simp (maxSteps := 1000000) only [↓reduceIte, go_sem, g0, g1, g7, g6, e1, e3]) | (simp (maxSteps := 1000000) (disch := first | omega | assumption) only [BB, g0, g1, g7, g6, e1, e3]) | with_reducible refine Gst.now ?_ | with_reducible refine vawp_draw mixed (by kernel_rfl) ?_ | with_reducible first | refine lwV_out ?_ | refine lwV_out0 ?_ | refine lkC_out ?_ | refine And.intro (by omega) ?_ | fail)
              exact ⟨j, hj, rfl, rfl⟩
            · rintro c ρ h2 ⟨k, hc, g0, g1, g7, g8, g9, hkm, j, hj, g6, rfl⟩
              by_cases hk : k < m
              · have e5 := eq_true hk
                have e6 := copyN_len out dd k
                have e7 : (out.length + k - dd < out.length + k) = True := eq_true (by omega)
                repeat (first | (simp (maxSteps := 1000000) only [↓reduceIte, go_sem, g0, g1, g7, g6, e1, e3, g8, g9, e5, e6, e7]) | (simp (maxSteps := 1000000) (disch := first | omega | assumption) only [BB, g0, g1, g7, g6, e1, e3, g8, g9, e5, e6, e7]) | with_reducible refine Gst.now ?_ | with_reducible refine vawp_draw mixed (by kernel_rfl) ?_ | with_reducible first | refine lwV_out ?_ | refine lwV_out0 ?_ | refine lkC_out ?_ | refine And.intro (by omega) ?_ | fail)
                split
                · rename_i hq0
                  rw [if_pos (by omega)] at hexp
                  rw [hexp] at hK
                  repeat (first | (simp (maxSteps := 1000000) only [↓reduceIte, go_sem, g0, g1, g7, g6, e1, e3, g8, g9, e5, e6, e7]) | (simp (maxSteps := 1000000) (disch := first | omega | assumption) only [BB, g0, g1, g7, g6, e1, e3, g8, g9, e5, e6, e7]) | with_reducible refine Gst.now ?_ | with_reducible refine vawp_draw mixed (by kernel_rfl) ?_ | with_reducible first | refine lwV_out ?_ | refine lwV_out0 ?_ | refine lkC_out ?_ | refine And.intro (by omega) ?_ | fail)
                  refine hq _ _ ?_
                  repeat (first | (simp (maxSteps := 1000000) only [↓reduceIte, go_sem, g0, g1, g7, g6, e1, e3, g8, g9, e5, e6, e7]) | (simp (maxSteps := 1000000) (disch := first | omega | assumption) only [BB, g0, g1, g7, g6, e1, e3, g8, g9, e5, e6, e7]) | with_reducible refine Gst.now ?_ | with_reducible refine vawp_draw mixed (by kernel_rfl) ?_ | with_reducible first | refine lwV_out ?_ | refine lwV_out0 ?_ | refine lkC_out ?_ | refine And.intro (by omega) ?_ | fail)
                  refine .drop j (.now ?_)
                  rw [hdel_hset hj]
                  exact hK true
                · rename_i hq0
                  repeat (first | (simp (maxSteps := 1000000) only [↓reduceIte, go_sem, g0, g1, g7, g6, e1, e3, g8, g9, e5, e6, e7]) | (simp (maxSteps := 1000000) (disch := first | omega | assumption) only [BB, g0, g1, g7, g6, e1, e3, g8, g9, e5, e6, e7]) | with_reducible refine Gst.now ?_ | with_reducible refine vawp_draw mixed (by kernel_rfl) ?_ | with_reducible first | refine lwV_out ?_ | refine lwV_out0 ?_ | refine lkC_out ?_ | refine And.intro (by omega) ?_ | fail)
                  refine vBuildS_i bs23 ?_ ?_ ?_ ?_ ?_
                  rfl
                  rfl
                  rfl
                  rfl
                  repeat (first | (simp (maxSteps := 1000000) only [↓reduceIte, go_sem]) | (simp (maxSteps := 1000000) (disch := first | omega | assumption) only [BB]) | with_reducible refine Gst.now ?_ | with_reducible refine vawp_draw mixed (by kernel_rfl) ?_ | with_reducible first | refine lwV_out ?_ | refine lwV_out0 ?_ | refine lkC_out ?_ | refine And.intro (by omega) ?_ | fail)
                  apply vApp_own_isl ap23 (by simp only [go_sem])
                  case hv => first | (simp [e6]; done) | (simp [e6]; omega) | rfl | assumption
                  case hj => repeat (first | exact hset_at _ _ _ | assumption | refine (hset_ne _ _ (by first | omega | assumption)).trans ?_ | refine (hdel_ne _ (by first | omega | assumption)).trans ?_ | fail)
                  case hl => first | (simp [e6]; done) | (simp [e6]; omega) | rfl | assumption
                  case h1 => first | omega | (simp [e6]; omega) | (simp [e6]; done)
                  case h2 => first | omega | (simp [e6]; omega) | (simp [e6]; done)
                  intro j' hj'
                  try simp (disch := first | omega | assumption) only [go_sem, hset_none, hdel_none] at hj'
                  try simp (disch := first | omega | assumption) only [hset_none, hdel_none] at hj'
                  repeat (first | (simp (maxSteps := 1000000) only [↓reduceIte, go_sem, g0, g1, g7, g6, e1, e3, g8, g9, e5, e6, e7]) | (simp (maxSteps := 1000000) (disch := first | omega | assumption) only [BB, g0, g1, g7, g6, e1, e3, g8, g9, e5, e6, e7]) | with_reducible refine Gst.now ?_ | with_reducible refine vawp_draw mixed (by kernel_rfl) ?_ | with_reducible first | refine lwV_out ?_ | refine lwV_out0 ?_ | refine lkC_out ?_ | refine And.intro (by omega) ?_ | fail)
                  refine ⟨c - 1, by omega, k + 1, by omega, rfl, by omega, j', by simp [hj'], by simp [Nat.add_assoc], ?_⟩
                  rw [copyN, List.map_append, e6]
                  rfl
              · have e5 := eq_false hk
                have hkm2 : k = m := by omega
                rw [if_neg (by omega)] at hexp
                repeat (first | (simp (maxSteps := 1000000) only [↓reduceIte, go_sem, g0, g1, g7, g6, e1, e3, g8, g9, e5]) | (simp (maxSteps := 1000000) (disch := first | omega | assumption) only [BB, g0, g1, g7, g6, e1, e3, g8, g9, e5]) | with_reducible refine Gst.now ?_ | with_reducible refine vawp_draw mixed (by kernel_rfl) ?_ | with_reducible first | refine lwV_out ?_ | refine lwV_out0 ?_ | refine lkC_out ?_ | refine And.intro (by omega) ?_ | fail)
                rw [hkm2]
                exact ⟨d - 1, by omega, i + 1, copyN out dd m, by omega, rfl, hexp, .inr (by rw [copyN_len]; omega), j, hj, by rw [copyN_len]; exact ⟨rfl, rfl⟩, rfl⟩
    · have e1 := eq_false hi
      have hii : i = ts.length := by omega
      rw [hii, List.drop_length, expT] at hexp
      rw [hexp] at hK
      repeat (first | (simp (maxSteps := 1000000) only [↓reduceIte, go_sem, g0, g1, g7, g6, e1]) | (simp (maxSteps := 1000000) (disch := first | omega | assumption) only [BB, g0, g1, g7, g6, e1]) | with_reducible refine Gst.now ?_ | with_reducible refine vawp_draw mixed (by kernel_rfl) ?_ | with_reducible first | refine lwV_out ?_ | refine lwV_out0 ?_ | refine lkC_out ?_ | refine And.intro (by omega) ?_ | fail)
      refine hq _ _ ?_
      repeat (first | (simp (maxSteps := 1000000) only [↓reduceIte, go_sem, g0, g1, g7, g6, e1]) | (simp (maxSteps := 1000000) (disch := first | omega | assumption) only [BB, g0, g1, g7, g6, e1]) | with_reducible refine Gst.now ?_ | with_reducible refine vawp_draw mixed (by kernel_rfl) ?_ | with_reducible first | refine lwV_out ?_ | refine lwV_out0 ?_ | refine lkC_out ?_ | refine And.intro (by omega) ?_ | fail)
      exact frk_own2 hj (hK false)
end
end Go.Proofs.YtipeglbklhincaaDoor.VMatchD
