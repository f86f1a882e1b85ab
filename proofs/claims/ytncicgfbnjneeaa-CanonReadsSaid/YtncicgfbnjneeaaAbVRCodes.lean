/- codes from their lengths, by definition, over the machine of values. -/
import Derived.Test.YtncicgfbnjneeaaProg
import Derived.Test.YtncicgfbnjneeaaAbV16
import Derived.Test.YtncicgfbnjneeaaAbFacts
import Derived.Test.YtncicgfbnjneeaaAbBitsM
import Derived.Test.YtncicgfbnjneeaaAbVBits
import Derived.Test.YtncicgfbnjneeaaAbVBitsT
import Derived.Test.YtncicgfbnjneeaaAbVLen
import Derived.Test.YtncicgfbnjneeaaAbVCheck
import Derived.Test.YtncicgfbnjneeaaAbVCodes
import Derived.KernelRfl
import Derived.Laws.BitsAllLaws
set_option linter.unusedVariables false
set_option linter.unusedSimpArgs false
set_option maxRecDepth 100000
set_option maxHeartbeats 4000000
namespace Go.Proofs.Ytncicgfbnjneeaa.VRCodes
open Go.RowKit Go.Proofs.AbM Go.Proofs.Ytncicgfbnjneeaa.Facts Go.Proofs.Ytncicgfbnjneeaa.BitsM Go.Proofs.Ytncicgfbnjneeaa.VBits Go.Proofs.Ytncicgfbnjneeaa.VBitsT Go.Proofs.Ytncicgfbnjneeaa.VLen Go.Proofs.Ytncicgfbnjneeaa.VCheck Go.Proofs.Ytncicgfbnjneeaa.VCodes
attribute [local go_sem] vawp_skip_eq vawp_seq_eq vawp_region_eq vawp_cond_g vawp_block_eq vawp_exit_eq vawp_ret_eq thenV_ret thenV_exit thenV_normal inBlockV_normal inBlockV_ret inBlockV_exit resKV_nil resKV_tmp resKV_cell oneV_one oneV_nil oneV_more initV_nil initV_cons updV_at evv_tmp evv_func evv_global evv_int evv_bool evv_str evv_snil evv_pnil evv_agg ofV3_int ofV3_bool ofV3_str ofV3_snil ofV3_pnil vok_tmp vok_func vok_global vok_int vok_bool vok_str vok_snil vok_pnil vok_agg cloV3_int cloV3_bool cloV3_str cloV3_snil cloV3_pnil voks_nil voks_cons scV_int scV_bool scV_str isBlV_b isBV_t isBV_f lwV_none lwV_sc lwV_agg lwV_tup lwV_isl lwV_own lwV_op lwV_ip lwV_fn lwV_junk vops_nil vops_n vops_s gsN_eq vop dstOk_some dstOk_none pkV_b blkV_set eRead_f eRead_t vLoad_op vLoad_ip vStore_op cells_sc cells_isl cells_own cells_op cells_ip cells_fn cells_agg parts_sc parts_isl parts_own parts_op parts_ip parts_fn parts_agg one_sc one_isl one_own one_op one_ip one_fn vField_op vField_ip ePart_f ePart_t vFieldV_agg vIx_isl vIx_own vIx_op vIx_ip vIxV_agg vIxV_str vLen_str vLen_isl vLen_own vLen_agg bndE_none bndE_int vSlice_isl vSlice_str vBin_add vBin_sub vBin_mul vBin_quo vBin_rem vBin_and vBin_or vBin_xor vBin_andNot vBin_eql vBin_neq vBin_lss vBin_leq vBin_gtr vBin_geq vBin_shr_i8 vBin_shl_i8 vBin_shr_i16 vBin_shl_i16 vBin_shr_i32 vBin_shl_i32 vBin_shr_i64 vBin_shl_i64 vBin_shr_u8 vBin_shl_u8 vBin_shr_u16 vBin_shl_u16 vBin_shr_u32 vBin_shl_u32 vBin_shr_u64 vBin_shl_u64 vBin_seq vBin_sne vBin_isln vBin_opn vBin_ipn ex_sc ex_sc2 ex_sc3 ex_tup calleeV wSc_pb wSc_pi wSc_not wSc_neg wSc_com wSc_min2 wSc_max2 vfold_nil vfold_one vfold_cons vfill_nil vfill_e eFill_s vBuild vBox vAlloc setV_map setV_zs setV_zn setV_s hset_hset eConv_ss vConv_e iv_eq ivI_eq ex_get ex_getI set_iv set_ivI okNil isNilV isSlV hdel_at hset_at List.map_toArray List.map_cons List.map_nil List.nil_append List.cons_append List.append_nil List.toList_toArray List.getElem?_toArray List.getElem_toArray List.getElem_cons_zero List.getElem_cons_succ List.getElem?_cons_zero List.getElem?_cons_succ List.set_cons_zero List.set_cons_succ List.set_set List.length_cons List.length_nil List.length_set List.length_map List.all_cons List.all_nil List.drop_zero List.drop_succ_cons List.take_succ_cons List.take_zero List.flatMap_cons Bool.and_eq_true true_and and_true if_true if_false ite_true ite_false forall_eq' forall_eq exists_eq_left exists_eq_left' exists_eq' Value.bool.injEq Value.int.injEq Value.string.injEq Value.pointer.injEq Option.some.injEq AV.sc.injEq AV.op.injEq AV.ip.injEq AV.own.injEq AV.agg.injEq VB.cells.injEq VB.iter.injEq Prod.mk.injEq decide_eq_true_eq decide_eq_false_iff_not Nat.reduceEqDiff Nat.reduceLT Nat.reduceLeDiff Nat.reduceSub Nat.reduceBEq reduceIte Int.reduceLE Int.reduceLT Int.reduceToNat Int.reduceNeg Int.reduceEq Int.reduceNe Int.cast_ofNat_Int Nat.reduceMul Nat.reduceAdd Nat.reduceDiv Nat.reduceMod Nat.reducePow Int.reduceSub Int.reduceAdd Int.reduceMul Int.reducePow Option.isSome_some Option.isSome_none Option.bind_some Option.map_some Option.map_none Option.toList_some Option.toList_none true_or or_true or_false false_or Bool.not_true Bool.not_false Bool.not_eq_true Bool.false_eq_true Bool.not_not false_implies true_implies implies_true Nat.zero_add Nat.add_zero Nat.mul_one Bool.not_eq_true' Bool.true_eq_false Bool.and_true Bool.true_and Bool.and_false Bool.false_and Bool.or_true Bool.true_or Bool.or_false Bool.false_or Option.isNone_some Option.isNone_none Int.reduceBEq Int.reduceBNe beq_self_eq_true bne_self_eq_false beq_iff_eq not_false_eq_true not_true_eq_false Decidable.not_not bne_iff_ne ne_eq Int.toNat_natCast gt_lt ge_le c_add c_mul c_sub c_addn c_nadd c_muln c_nmul c_subn c_nsub c_divn c_modn c_div c_mod c_tdivn c_tmodn c_tdiv c_tmod c_pow c_nn c_beq c_beqn c_bne c_bnen wr64 wr32 wru64 wru32 wru16 wru8 c_if c_if1 c_if2 c_lt c_le c_eq c_ltn c_len c_nlt c_nle c_eqn m_drop m_take Nat.add_sub_cancel_left Nat.add_sub_cancel Int.reduceTMod Int.reduceTDiv Int.reduceMod Int.reduceDiv isC_some hset_ne hdel_ne hdel_hset hdel_hset_ne blkV_nset blkV_ndel hset_hdel gV_t gV_f isGdV_b isGdV_u isBV_u isGdV_g isBV_gt isBV_gf decide_true decide_false Bool.or_eq_false_iff eq_self Nat.lt_irrefl Int.lt_irrefl Nat.le_refl Int.le_refl
attribute [local go_sem high] vops_pk vops_mv vops_as vops_smv pk_and pk_or pk_gand pk_gor pk_orn pk_gorn
attribute [local go_sem] ag3 sz3 zc3 ik3 ag4 sz4 zc4 ag5 sz5 zc5 ik5 ag22 sz22 el22 zc22 is22 ag24 sz24 el24 zc24 is24 ag25 sz25 zc25 ik25 ag30 sz30 zc30 ik30 ag31 sz31 zc31 pt31 ag38 sz38 el38 zc38 is38 ag39 sz39 zc39 pt39 ag49 sz49 zc49 bo49 ag54 sz54 ea54 an54 zc54 bo54 ag58 sz58 ea58 an58 zc58 bo58 ag60 sz60 zc60 bo60 ag62 sz62 zc62 bo62 ag68 sz68 zc68 pt68 ag72 sz72 zc72 ag73 sz73 ea73 an73 zc73 bo73 of49_0 fd49_0 of49_1 fd49_1 of60_0 fd60_0 of60_1 fd60_1 of60_2 fd60_2 of60_3 fd60_3 of60_4 fd60_4 of62_0 fd62_0 of62_1 fd62_1 eqb neb
section
variable {n : Nat} {h : VH} {K : AV → VH → Prop}
attribute [local go_sem] Nat.zero_le
theorem used_take {ls : List Nat} {i : Nat} (hi : i < ls.length) : usedL (ls.take (i + 1)) = usedL (ls.take i) + if 0 < ls.getD i 0 then 1 else 0 := by
  unfold usedL
  rw [take_snocN hi, List.filter_append, List.length_append]
  congr 1
  by_cases h : 0 < ls.getD i 0
  · rw [if_pos h, List.filter_cons, if_pos (by simpa using h)]; rfl
  · rw [if_neg h, List.filter_cons, if_neg (by simpa using h)]; rfl
theorem rcodes_v {nl : Bool} {l : Nat} {xs : List Int} (hl : l = xs.length) (hb : xs.length ≤ 140737488355328) (hK : K (.tup [.isl (codesR xs).2.1 (codesR xs).2.2.length ((codesR xs).2.2.map (iv .u32)), (.sc (.int .i64 (((codesR xs).1 : Nat))))]) h) : VC Try.prog GL (n + 2) 10 [.isl nl l (xs.map (ivI .i64))] h K := by
  refine VC_go Try.func10 rfl (by decide) Try.ntmps10 Try.results10 rfl fun Q hq hn => ?_
  subst hl
  repeat (first | (simp (maxSteps := 1000000) only [↓reduceIte, go_sem]) | (simp (maxSteps := 1000000) (disch := first | omega | assumption) only [BB]) | with_reducible refine Gst.now ?_ | with_reducible refine vawp_draw mixed (by kernel_rfl) ?_ | with_reducible first | refine lwV_out ?_ | refine lwV_out0 ?_ | refine lkC_out ?_ | refine And.intro (by omega) ?_ | fail)
  with_reducible refine call_ok ?_
  refine right_v rfl hb ?_
  by_cases hright : xs.any badL = false ∧ xs.length ≤ 288
  case neg =>
    have hc : chkL xs = 1 := by
      unfold chkL
      rw [if_pos]
      cases hx : xs.any badL with
      | true => exact .inr rfl
      | false => exact .inl (Nat.lt_of_not_le fun h => hright ⟨hx, h⟩)
    have hr : codesR xs = (1, true, []) := by unfold codesR; rw [if_neg (by rw [hc]; decide), hc]
    rw [hr] at hK
    have e1 : (!xs.any badL && decide (xs.length ≤ 288)) = false := by
      cases hx : xs.any badL with
      | true => rfl
      | false => exact decide_eq_false fun h => hright ⟨hx, h⟩
    rw [e1]
    repeat (first | (simp (maxSteps := 1000000) only [↓reduceIte, go_sem, e1]) | (simp (maxSteps := 1000000) (disch := first | omega | assumption) only [BB, e1]) | with_reducible refine Gst.now ?_ | with_reducible refine vawp_draw mixed (by kernel_rfl) ?_ | with_reducible first | refine lwV_out ?_ | refine lwV_out0 ?_ | refine lkC_out ?_ | refine And.intro (by omega) ?_ | fail)
    refine hq _ _ ?_
    repeat (first | (simp (maxSteps := 1000000) only [↓reduceIte, go_sem, e1]) | (simp (maxSteps := 1000000) (disch := first | omega | assumption) only [BB, e1]) | with_reducible refine Gst.now ?_ | with_reducible refine vawp_draw mixed (by kernel_rfl) ?_ | with_reducible first | refine lwV_out ?_ | refine lwV_out0 ?_ | refine lkC_out ?_ | refine And.intro (by omega) ?_ | fail)
    exact .now hK
  obtain ⟨hbad, hlen2⟩ := hright
  have e1 : (!xs.any badL && decide (xs.length ≤ 288)) = true := by rw [hbad, decide_eq_true hlen2]; rfl
  obtain ⟨ls, hls, h15⟩ := natL hbad
  have hlen : xs.length = ls.length := by rw [hls, List.length_map]
  have hE3 : xs.map (ivI .i64) = ls.map (iv .i64) := by rw [hls]; exact natL_cells ls
  have hE4 : xs.map Int.toNat = ls := by rw [hls, List.map_map]; exact (List.map_congr_left fun x _ => Int.toNat_natCast x).trans (List.map_id ls)
  have hb2 : ls.length ≤ 288 := by omega
  have hchk : chkL xs = chkN ls := by unfold chkL; rw [if_neg (by rw [hbad]; exact fun h9 => h9.elim (fun h8 => absurd hlen2 (by omega)) (fun h8 => by cases h8)), hE4]
  have hcr : codesR xs = if chkN ls = 0 then (0, false, codesL ls) else (chkN ls, true, []) := by unfold codesR; rw [hchk, hE4]
  rw [hcr] at hK
  rw [e1, hE3, hlen]
  repeat (first | (simp (maxSteps := 1000000) only [↓reduceIte, go_sem, e1]) | (simp (maxSteps := 1000000) (disch := first | omega | assumption) only [BB, e1]) | with_reducible refine Gst.now ?_ | with_reducible refine vawp_draw mixed (by kernel_rfl) ?_ | with_reducible first | refine lwV_out ?_ | refine lwV_out0 ?_ | refine lkC_out ?_ | refine And.intro (by omega) ?_ | fail)
  with_reducible refine call_ok ?_
  refine sum_v rfl (by omega) h15 ?_
  by_cases hs : sumL ls ≤ 32768
  case neg =>
    have hc : chkN ls = 30 := if_neg hs
    rw [hc, if_neg (by decide)] at hK
    have e2 : (32768 < sumL ls) = True := eq_true (by omega)
    repeat (first | (simp (maxSteps := 1000000) only [↓reduceIte, go_sem, e1, e2]) | (simp (maxSteps := 1000000) (disch := first | omega | assumption) only [BB, e1, e2]) | with_reducible refine Gst.now ?_ | with_reducible refine vawp_draw mixed (by kernel_rfl) ?_ | with_reducible first | refine lwV_out ?_ | refine lwV_out0 ?_ | refine lkC_out ?_ | refine And.intro (by omega) ?_ | fail)
    refine hq _ _ ?_
    repeat (first | (simp (maxSteps := 1000000) only [↓reduceIte, go_sem, e1, e2]) | (simp (maxSteps := 1000000) (disch := first | omega | assumption) only [BB, e1, e2]) | with_reducible refine Gst.now ?_ | with_reducible refine vawp_draw mixed (by kernel_rfl) ?_ | with_reducible first | refine lwV_out ?_ | refine lwV_out0 ?_ | refine lkC_out ?_ | refine And.intro (by omega) ?_ | fail)
    exact .now hK
  have hc : chkN ls = if sumL ls = 32768 ∨ usedL ls = 0 ∨ (usedL ls = 1 ∧ sumL ls = 16384) then 0 else 31 := if_pos hs
  have e2 : (32768 < sumL ls) = False := eq_false (by omega)
  have hfls := fun l (hl : l ≤ 15) => first_lt h15 hs hl
  have hul : ∀ i, usedL (ls.take i) ≤ ls.length := fun i => Nat.le_trans (List.length_filter_le _ _) (by rw [List.length_take]; omega)
  repeat (first | (simp (maxSteps := 1000000) only [↓reduceIte, go_sem, e1, e2]) | (simp (maxSteps := 1000000) (disch := first | omega | assumption) only [BB, e1, e2]) | with_reducible refine Gst.now ?_ | with_reducible refine vawp_draw mixed (by kernel_rfl) ?_ | with_reducible first | refine lwV_out ?_ | refine lwV_out0 ?_ | refine lkC_out ?_ | refine And.intro (by omega) ?_ | fail)
  refine vawp_loop (k := ls.length) (fun c ρ h1 => ∃ i : Nat, c + i = ls.length ∧ ρ 0 = .isl nl ls.length (ls.map (iv .i64)) ∧ ρ 4 = (.sc (.int .i64 ((sumL ls : Nat)))) ∧ ρ 5 = (.sc (.int .i64 ((usedL (ls.take i) : Nat)))) ∧ ρ 6 = (.sc (.int .i64 ((i : Nat)))) ∧ h1 = h) ?_ ?_
  · refine ⟨0, by omega, ?_⟩
    repeat (first | (simp (maxSteps := 1000000) only [↓reduceIte, go_sem, e1, e2]) | (simp (maxSteps := 1000000) (disch := first | omega | assumption) only [BB, e1, e2]) | with_reducible refine Gst.now ?_ | with_reducible refine vawp_draw mixed (by kernel_rfl) ?_ | with_reducible first | refine lwV_out ?_ | refine lwV_out0 ?_ | refine lkC_out ?_ | refine And.intro (by omega) ?_ | fail)
    rfl
  · rintro c ρ h1 ⟨i, hci, g0, g4, g5, g6, rfl⟩
    by_cases hi : i < ls.length
    · have e3 := eq_true hi
      have htk := used_take hi
      have huli := hul i
      generalize usedL (ls.take i) = u at *
      repeat (first | (simp (maxSteps := 1000000) only [↓reduceIte, go_sem, e1, e2, g0, g4, g5, g6, e3]) | (simp (maxSteps := 1000000) (disch := first | omega | assumption) only [BB, e1, e2, g0, g4, g5, g6, e3]) | with_reducible refine Gst.now ?_ | with_reducible refine vawp_draw mixed (by kernel_rfl) ?_ | with_reducible first | refine lwV_out ?_ | refine lwV_out0 ?_ | refine lkC_out ?_ | refine And.intro (by omega) ?_ | fail)
      split
      · rename_i h0
        rw [if_pos h0] at htk
        repeat (first | (simp (maxSteps := 1000000) only [↓reduceIte, go_sem, e1, e2, g0, g4, g5, g6, e3]) | (simp (maxSteps := 1000000) (disch := first | omega | assumption) only [BB, e1, e2, g0, g4, g5, g6, e3]) | with_reducible refine Gst.now ?_ | with_reducible refine vawp_draw mixed (by kernel_rfl) ?_ | with_reducible first | refine lwV_out ?_ | refine lwV_out0 ?_ | refine lkC_out ?_ | refine And.intro (by omega) ?_ | fail)
        exact ⟨c - 1, by omega, i + 1, by omega, htk.symm, rfl⟩
      · rename_i h0
        rw [if_neg h0] at htk
        repeat (first | (simp (maxSteps := 1000000) only [↓reduceIte, go_sem, e1, e2, g0, g4, g5, g6, e3]) | (simp (maxSteps := 1000000) (disch := first | omega | assumption) only [BB, e1, e2, g0, g4, g5, g6, e3]) | with_reducible refine Gst.now ?_ | with_reducible refine vawp_draw mixed (by kernel_rfl) ?_ | with_reducible first | refine lwV_out ?_ | refine lwV_out0 ?_ | refine lkC_out ?_ | refine And.intro (by omega) ?_ | fail)
        exact ⟨c - 1, by omega, i + 1, by omega, htk.symm, rfl⟩
    · have e3 := eq_false hi
      have hii : i = ls.length := by omega
      rw [hii, List.take_length] at g5
      clear hii
      repeat (first | (simp (maxSteps := 1000000) only [↓reduceIte, go_sem, e1, e2, g0, g4, g5, g6, e3]) | (simp (maxSteps := 1000000) (disch := first | omega | assumption) only [BB, e1, e2, g0, g4, g5, g6, e3]) | with_reducible refine vawp_draw mixed (by kernel_rfl) ?_ | with_reducible first | refine lwV_out ?_ | refine lwV_out0 ?_ | refine lkC_out ?_ | refine And.intro (by omega) ?_ | fail)
      first | (with_reducible refine Gst.now ?_) | (with_reducible refine lkC_out ?_; simp only [vawp_skip_eq, thenV_normal]; with_reducible refine Gst.now ?_) | (with_reducible refine lkC_out ?_)
      repeat (first | (simp (maxSteps := 1000000) only [↓reduceIte, go_sem, e1, e2, g0, g4, g5, g6, e3]) | (simp (maxSteps := 1000000) (disch := first | omega | assumption) only [BB, e1, e2, g0, g4, g5, g6, e3]) | with_reducible refine vawp_draw mixed (by kernel_rfl) ?_ | with_reducible first | refine lwV_out ?_ | refine lwV_out0 ?_ | refine lkC_out ?_ | refine And.intro (by omega) ?_ | fail)
      first | (with_reducible refine Gst.now ?_) | (with_reducible refine lkC_out ?_; simp only [vawp_skip_eq, thenV_normal]; with_reducible refine Gst.now ?_) | (with_reducible refine lkC_out ?_)
      try simp only [vawp_seq_eq, vawp_block_eq]
      with_reducible refine vawp_regq ?_
      simp only [List.toList_toArray]
      repeat (first | (apply vopsQ_pk; (case hd => rfl); (case h1 => simp (disch := first | omega | assumption) only [↓reduceIte, go_sem, e1, e2, g0, g4, g5, g6, e3]); (case h2 => simp (disch := first | omega | assumption) only [↓reduceIte, go_sem, e1, e2, g0, g4, g5, g6, e3]); (case h3 => simp (disch := first | omega | assumption) only [↓reduceIte, go_sem, e1, e2, g0, g4, g5, g6, e3]); (case hb => simp (disch := first | omega | assumption) only [↓reduceIte, go_sem, e1, e2, g0, g4, g5, g6, e3]); (try simp (disch := first | omega | assumption) only [↓reduceIte, go_sem, e1, e2, g0, g4, g5, g6, e3])) | (apply vopsQ_n; (case hd => rfl); (case hq => (intro K' hk'; repeat (first | simp (maxSteps := 4000000) (disch := first | omega | assumption) only [↓reduceIte, go_sem, e1, e2, g0, g4, g5, g6, e3] | with_reducible refine Gst.now ?_ | with_reducible refine vawp_draw mixed (by kernel_rfl) ?_ | with_reducible first | refine lwV_out ?_ | refine lwV_out0 ?_ | refine lkC_out ?_ | refine And.intro (by omega) ?_ | fail); exact hk'))) | (apply vopsQ_gt; (case hd => rfl); (case h1 => rfl); (case h2 => rfl); (case h3 => simp (disch := first | omega | assumption) only [↓reduceIte, go_sem]); (case hq => (intro K' hk'; repeat (first | simp (maxSteps := 4000000) (disch := first | omega | assumption) only [↓reduceIte, go_sem, e1, e2, g0, g4, g5, g6, e3] | with_reducible refine Gst.now ?_ | with_reducible refine vawp_draw mixed (by kernel_rfl) ?_ | with_reducible first | refine lwV_out ?_ | refine lwV_out0 ?_ | refine lkC_out ?_ | refine And.intro (by omega) ?_ | fail); exact hk'))) | (apply vopsQ_gf'; (case hd => rfl); (case h1 => rfl); (case h2 => rfl); (case h3 => simp (disch := first | omega | assumption) only [↓reduceIte, go_sem, e1, e2, g0, g4, g5, g6, e3])) | (apply vopsQ_gj; (case hd => rfl); (case h1 => rfl); (case h2 => rfl); (case h3 => simp (disch := first | omega | assumption) only [↓reduceIte, go_sem, e1, e2, g0, g4, g5, g6, e3])) | (apply vopsQ_gpk; (case hd => rfl); (case h1 => rfl); (case h2 => rfl); (case h3 => simp (disch := first | omega | assumption) only [↓reduceIte, go_sem, e1, e2, g0, g4, g5, g6, e3]); (case k1 => simp (disch := first | omega | assumption) only [↓reduceIte, go_sem, e1, e2, g0, g4, g5, g6, e3]); (case k2 => simp (disch := first | omega | assumption) only [↓reduceIte, go_sem, e1, e2, g0, g4, g5, g6, e3]); (case k3 => simp (disch := first | omega | assumption) only [↓reduceIte, go_sem, e1, e2, g0, g4, g5, g6, e3]); (case hb => (intro hc; (try simp (disch := first | omega | assumption) only [↓reduceIte, go_sem, e1, e2, g0, g4, g5, g6, e3] at hc); simp (disch := first | omega | assumption) only [↓reduceIte, go_sem, hc, e1, e2, g0, g4, g5, g6, e3])); (try simp (disch := first | omega | assumption) only [↓reduceIte, go_sem, e1, e2, g0, g4, g5, g6, e3])) | (apply vopsQ_gu; (case hd => rfl); (case h1 => rfl); (case h2 => rfl); (case h3 => simp (disch := first | omega | assumption) only [↓reduceIte, go_sem, e1, e2, g0, g4, g5, g6, e3]); (case hq => (intro hc K' hk'; (try simp (disch := first | omega | assumption) only [↓reduceIte, go_sem, e1, e2, g0, g4, g5, g6, e3] at hc); repeat (first | simp (maxSteps := 4000000) (disch := first | omega | assumption) only [↓reduceIte, go_sem, hc, e1, e2, g0, g4, g5, g6, e3] | with_reducible refine Gst.now ?_ | with_reducible refine vawp_draw mixed (by kernel_rfl) ?_ | with_reducible first | refine lwV_out ?_ | refine lwV_out0 ?_ | refine lkC_out ?_ | refine And.intro (by omega) ?_ | fail); exact hk')); (try simp (disch := first | omega | assumption) only [↓reduceIte, go_sem, e1, e2, g0, g4, g5, g6, e3])) | fail)
      simp only [vopsQ_nil]
      repeat (first | (simp (maxSteps := 1000000) only [↓reduceIte, go_sem, e1, e2, g0, g4, g5, g6, e3]) | (simp (maxSteps := 1000000) (disch := first | omega | assumption) only [BB, e1, e2, g0, g4, g5, g6, e3]) | with_reducible refine Gst.now ?_ | with_reducible refine vawp_draw mixed (by kernel_rfl) ?_ | with_reducible first | refine lwV_out ?_ | refine lwV_out0 ?_ | refine lkC_out ?_ | refine And.intro (by omega) ?_ | fail)
      split
      · rename_i hh
        have hh2 : ¬ (sumL ls = 32768 ∨ usedL ls = 0 ∨ (usedL ls = 1 ∧ sumL ls = 16384)) := by
          simp only [Bool.and_eq_true, Bool.not_eq_true', Bool.and_eq_false_iff, beq_eq_false_iff_ne, decide_eq_true_eq] at hh
          omega
        rw [if_neg hh2] at hc
        rw [hc, if_neg (by decide)] at hK
        repeat (first | (simp (maxSteps := 1000000) only [↓reduceIte, go_sem, e1, e2, g0, g4, g5, g6, e3]) | (simp (maxSteps := 1000000) (disch := first | omega | assumption) only [BB, e1, e2, g0, g4, g5, g6, e3]) | with_reducible refine Gst.now ?_ | with_reducible refine vawp_draw mixed (by kernel_rfl) ?_ | with_reducible first | refine lwV_out ?_ | refine lwV_out0 ?_ | refine lkC_out ?_ | refine And.intro (by omega) ?_ | fail)
        refine hq _ _ ?_
        repeat (first | (simp (maxSteps := 1000000) only [↓reduceIte, go_sem, e1, e2, g0, g4, g5, g6, e3]) | (simp (maxSteps := 1000000) (disch := first | omega | assumption) only [BB, e1, e2, g0, g4, g5, g6, e3]) | with_reducible refine Gst.now ?_ | with_reducible refine vawp_draw mixed (by kernel_rfl) ?_ | with_reducible first | refine lwV_out ?_ | refine lwV_out0 ?_ | refine lkC_out ?_ | refine And.intro (by omega) ?_ | fail)
        exact .now hK
      · rename_i hh
        have hh2 : sumL ls = 32768 ∨ usedL ls = 0 ∨ (usedL ls = 1 ∧ sumL ls = 16384) := by
          apply Decidable.byContradiction
          intro h9
          apply hh
          simp only [Bool.and_eq_true, Bool.not_eq_true', Bool.and_eq_false_iff, beq_eq_false_iff_ne, decide_eq_true_eq]
          omega
        rw [if_pos hh2] at hc
        rw [hc, if_pos rfl] at hK
        repeat (first | (simp (maxSteps := 1000000) only [↓reduceIte, go_sem, e1, e2, g0, g4, g5, g6, e3]) | (simp (maxSteps := 1000000) (disch := first | omega | assumption) only [BB, e1, e2, g0, g4, g5, g6, e3]) | with_reducible refine Gst.now ?_ | with_reducible refine vawp_draw mixed (by kernel_rfl) ?_ | with_reducible first | refine lwV_out ?_ | refine lwV_out0 ?_ | refine lkC_out ?_ | refine And.intro (by omega) ?_ | fail)
        refine vMake_1 mk24 (by omega) (by omega) fun j hj => ?_
        have hcc : ∀ m, 0 < m → m < 16 → (cntL ls).getD m 0 = ls.count m := fun m h0 hm => by rw [cntL_get ls m hm, if_neg (by omega)]
        have hcol := codes_len ls
        have hcog := codes_get ls
        have hcg : ∀ s, s < ls.length → codeS ls s = if 0 < ls.getD s 0 then firstL ls (ls.getD s 0) + (ls.take s).count (ls.getD s 0) else 0 := fun _ _ => rfl
        have hfs : ∀ l, firstL ls (l + 1) = (firstL ls l + (cntL ls).getD l 0) * 2 := fun _ => rfl
        have hlx : ∀ t, ls.getD t 0 ≤ 15 := fun t => getD_leN h15
        repeat (first | (simp (maxSteps := 1000000) only [↓reduceIte, go_sem, e1, e2, g0, g4, g5, g6, e3]) | (simp (maxSteps := 1000000) (disch := first | omega | assumption) only [BB, e1, e2, g0, g4, g5, g6, e3]) | with_reducible refine Gst.now ?_ | with_reducible refine vawp_draw mixed (by kernel_rfl) ?_ | with_reducible first | refine lwV_out ?_ | refine lwV_out0 ?_ | refine lkC_out ?_ | refine And.intro (by omega) ?_ | fail)
        refine vawp_loop (k := 16) (fun c ρ h2 => ∃ (i : Nat) (O : List Nat), c + i = 16 ∧ i ≤ 15 ∧ ρ 0 = .isl nl ls.length (ls.map (iv .i64)) ∧ ρ 7 = .own j 0 ls.length ∧ ρ 8 = (.sc (.int .u32 ((firstL ls i + (cntL ls).getD i 0 : Nat)))) ∧ ρ 9 = (.sc (.int .i64 ((i + 1 : Nat)))) ∧ O.length = ls.length ∧ (∀ t, t < ls.length → O.getD t 0 = if 0 < ls.getD t 0 ∧ ls.getD t 0 ≤ i then codeS ls t else 0) ∧ h2 = hset h1 j (.cells 30 false (O.map (iv .u32)))) ?_ ?_
        · refine ⟨0, List.replicate ls.length 0, by omega, ?_⟩
          have hc0 : (cntL ls).getD 0 0 = 0 := by rw [cntL_get ls 0 (by omega)]; rfl
          repeat (first | (simp (maxSteps := 1000000) only [↓reduceIte, go_sem, e1, e2, g0, g4, g5, g6, e3]) | (simp (maxSteps := 1000000) (disch := first | omega | assumption) only [BB, e1, e2, g0, g4, g5, g6, e3]) | with_reducible refine Gst.now ?_ | with_reducible refine vawp_draw mixed (by kernel_rfl) ?_ | with_reducible first | refine lwV_out ?_ | refine lwV_out0 ?_ | refine lkC_out ?_ | refine And.intro (by omega) ?_ | fail)
          refine ⟨by rw [hc0]; rfl, by simp, fun t ht => ?_, by rw [List.map_replicate]; rfl⟩
          rw [if_neg (by omega), List.getD_eq_getElem?_getD, List.getElem?_replicate, if_pos ht]; rfl
        · rintro c ρ h2 ⟨i, O, hci, hi15, g0, g7, g8, g9, hO, hOt, rfl⟩
          by_cases hi : i + 1 ≤ 15
          · have e3 := eq_true hi
            have hf1 := hfls i (by omega)
            have hf2 := hfls (i + 1) hi
            have e4 : 2 * (firstL ls i + (cntL ls).getD i 0) = firstL ls (i + 1) := by rw [hfs]; omega
            generalize hg8 : firstL ls i + (cntL ls).getD i 0 = cd at *
            have hcc1 := hcc (i + 1) (by omega) (by omega)
            repeat (first | (simp (maxSteps := 1000000) only [↓reduceIte, go_sem, e1, e2, g0, g4, g5, g6, e3, g7, g8, g9, e4]) | (simp (maxSteps := 1000000) (disch := first | omega | assumption) only [BB, e1, e2, g0, g4, g5, g6, e3, g7, g8, g9, e4]) | with_reducible refine Gst.now ?_ | with_reducible refine vawp_draw mixed (by kernel_rfl) ?_ | with_reducible first | refine lwV_out ?_ | refine lwV_out0 ?_ | refine lkC_out ?_ | refine And.intro (by omega) ?_ | fail)
            refine vawp_loop (k := ls.length) (fun c2 ρ h3 => ∃ (s : Nat) (O : List Nat), c2 + s = ls.length ∧ ρ 0 = .isl nl ls.length (ls.map (iv .i64)) ∧ ρ 7 = .own j 0 ls.length ∧ ρ 8 = (.sc (.int .u32 ((firstL ls (i + 1) + (ls.take s).count (i + 1) : Nat)))) ∧ ρ 9 = (.sc (.int .i64 ((i + 1 : Nat)))) ∧ ρ 10 = (.sc (.int .i64 ((s : Nat)))) ∧ O.length = ls.length ∧ (∀ t, t < ls.length → O.getD t 0 = if 0 < ls.getD t 0 ∧ (ls.getD t 0 ≤ i ∨ (ls.getD t 0 = i + 1 ∧ t < s)) then codeS ls t else 0) ∧ h3 = hset h1 j (.cells 30 false (O.map (iv .u32)))) ?_ ?_
            · refine ⟨0, O, by omega, ?_⟩
              repeat (first | (simp (maxSteps := 1000000) only [↓reduceIte, go_sem, e1, e2, g0, g4, g5, g6, e3, g7, g8, g9, e4]) | (simp (maxSteps := 1000000) (disch := first | omega | assumption) only [BB, e1, e2, g0, g4, g5, g6, e3, g7, g8, g9, e4]) | with_reducible refine Gst.now ?_ | with_reducible refine vawp_draw mixed (by kernel_rfl) ?_ | with_reducible first | refine lwV_out ?_ | refine lwV_out0 ?_ | refine lkC_out ?_ | refine And.intro (by omega) ?_ | fail)
              refine ⟨by simp, hO, fun t ht => ?_⟩
              rw [hOt t ht]
              by_cases h5 : 0 < ls.getD t 0 ∧ ls.getD t 0 ≤ i
              · rw [if_pos h5, if_pos (by omega)]
              · rw [if_neg h5, if_neg (by omega)]
            · rintro c2 ρ h3 ⟨s, O, hcs, g0, g7, g8, g9, g10, hO, hOt, rfl⟩
              by_cases hsl : s < ls.length
              · have e5 := eq_true hsl
                have e6 := hO
                have htc := count_take (j := i + 1) hsl
                have hkc := cnt_take_le ls s (i + 1)
                have hcgs := hcg s hsl
                by_cases hls1 : ls.getD s 0 = i + 1
                · have e7 := eq_true hls1
                  rw [if_pos hls1] at htc
                  rw [hls1, if_pos (by omega)] at hcgs
                  repeat (first | (simp (maxSteps := 1000000) only [↓reduceIte, go_sem, e1, e2, g0, g4, g5, g6, e3, g7, g8, g9, e4, g10, e5, e6, e7]) | (simp (maxSteps := 1000000) (disch := first | omega | assumption) only [BB, e1, e2, g0, g4, g5, g6, e3, g7, g8, g9, e4, g10, e5, e6, e7]) | with_reducible refine Gst.now ?_ | with_reducible refine vawp_draw mixed (by kernel_rfl) ?_ | with_reducible first | refine lwV_out ?_ | refine lwV_out0 ?_ | refine lkC_out ?_ | refine And.intro (by omega) ?_ | fail)
                  refine ⟨c2 - 1, by omega, s + 1, O.set s (firstL ls (i + 1) + (ls.take s).count (i + 1)), by omega, by rw [htc]; omega, rfl, by rw [List.length_set]; exact hO, fun t ht => ?_, rfl⟩
                  rw [set_getD (by omega)]
                  by_cases hts : t = s
                  · rw [if_pos hts, if_pos (by rw [hts]; omega), hts, hcgs]
                  · rw [if_neg hts, hOt t ht]
                    by_cases h5 : 0 < ls.getD t 0 ∧ (ls.getD t 0 ≤ i ∨ (ls.getD t 0 = i + 1 ∧ t < s))
                    · rw [if_pos h5, if_pos (by omega)]
                    · rw [if_neg h5, if_neg (by omega)]
                · have e7 := eq_false hls1
                  rw [if_neg hls1] at htc
                  repeat (first | (simp (maxSteps := 1000000) only [↓reduceIte, go_sem, e1, e2, g0, g4, g5, g6, e3, g7, g8, g9, e4, g10, e5, e6, e7]) | (simp (maxSteps := 1000000) (disch := first | omega | assumption) only [BB, e1, e2, g0, g4, g5, g6, e3, g7, g8, g9, e4, g10, e5, e6, e7]) | with_reducible refine Gst.now ?_ | with_reducible refine vawp_draw mixed (by kernel_rfl) ?_ | with_reducible first | refine lwV_out ?_ | refine lwV_out0 ?_ | refine lkC_out ?_ | refine And.intro (by omega) ?_ | fail)
                  refine ⟨c2 - 1, by omega, s + 1, O, by omega, by rw [htc]; rfl, rfl, hO, fun t ht => ?_, rfl⟩
                  rw [hOt t ht]
                  by_cases hts : t = s
                  · rw [hts] at *
                    by_cases h5 : 0 < ls.getD s 0 ∧ (ls.getD s 0 ≤ i ∨ (ls.getD s 0 = i + 1 ∧ s < s))
                    · rw [if_pos h5, if_pos (by omega)]
                    · rw [if_neg h5, if_neg (by omega)]
                  · by_cases h5 : 0 < ls.getD t 0 ∧ (ls.getD t 0 ≤ i ∨ (ls.getD t 0 = i + 1 ∧ t < s))
                    · rw [if_pos h5, if_pos (by omega)]
                    · rw [if_neg h5, if_neg (by omega)]
              · have e5 := eq_false hsl
                have hss : s = ls.length := by omega
                rw [hss, List.take_length, ← hcc1] at g8
                clear hss
                repeat (first | (simp (maxSteps := 1000000) only [↓reduceIte, go_sem, e1, e2, g0, g4, g5, g6, e3, g7, g8, g9, e4, g10, e5]) | (simp (maxSteps := 1000000) (disch := first | omega | assumption) only [BB, e1, e2, g0, g4, g5, g6, e3, g7, g8, g9, e4, g10, e5]) | with_reducible refine Gst.now ?_ | with_reducible refine vawp_draw mixed (by kernel_rfl) ?_ | with_reducible first | refine lwV_out ?_ | refine lwV_out0 ?_ | refine lkC_out ?_ | refine And.intro (by omega) ?_ | fail)
                refine ⟨c - 1, by omega, i + 1, O, by omega, hi, rfl, rfl, hO, fun t ht => ?_, rfl⟩
                rw [hOt t ht]
                by_cases h5 : 0 < ls.getD t 0 ∧ ls.getD t 0 ≤ i + 1
                · rw [if_pos h5, if_pos (by omega)]
                · rw [if_neg h5, if_neg (by omega)]
          · have e3 := eq_false hi
            have hE : O = codesL ls := ext_getD (by rw [hcol, hO]) fun m hm => by
              rw [hOt m (by omega), hcog m (by omega), hcg m (by omega)]
              have := hlx m
              by_cases h0 : 0 < ls.getD m 0
              · rw [if_pos ⟨h0, by omega⟩, if_pos h0]
              · rw [if_neg (by omega), if_neg h0]
            subst hE
            repeat (first | (simp (maxSteps := 1000000) only [↓reduceIte, go_sem, e1, e2, g0, g4, g5, g6, e3, g7, g8, g9]) | (simp (maxSteps := 1000000) (disch := first | omega | assumption) only [BB, e1, e2, g0, g4, g5, g6, e3, g7, g8, g9]) | with_reducible refine Gst.now ?_ | with_reducible refine vawp_draw mixed (by kernel_rfl) ?_ | with_reducible first | refine lwV_out ?_ | refine lwV_out0 ?_ | refine lkC_out ?_ | refine And.intro (by omega) ?_ | fail)
            refine hq _ _ ?_
            repeat (first | (simp (maxSteps := 1000000) only [↓reduceIte, go_sem, e1, e2, g0, g4, g5, g6, e3, g7, g8, g9]) | (simp (maxSteps := 1000000) (disch := first | omega | assumption) only [BB, e1, e2, g0, g4, g5, g6, e3, g7, g8, g9]) | with_reducible refine Gst.now ?_ | with_reducible refine vawp_draw mixed (by kernel_rfl) ?_ | with_reducible first | refine lwV_out ?_ | refine lwV_out0 ?_ | refine lkC_out ?_ | refine And.intro (by omega) ?_ | fail)
            rw [hcol] at hK
            exact .frz (v' := .tup [.isl false ls.length ((codesL ls).map (iv .u32)), (.sc (.int .i64 (0)))]) j (hset_at _ _ _) (.tup rfl (by
              intro i c c' h1 h2
              match i with
              | 0 => simp only [List.getElem?_cons_zero, Option.some.injEq] at h1 h2; subst h1 h2; exact .own _
              | 1 => simp only [List.getElem?_cons_succ, List.getElem?_cons_zero, Option.some.injEq] at h1 h2; subst h1 h2; exact .refl _
              | i + 2 => simp at h1)) (.now (by rw [hdel_hset hj]; exact hK))
end
end Go.Proofs.Ytncicgfbnjneeaa.VRCodes
