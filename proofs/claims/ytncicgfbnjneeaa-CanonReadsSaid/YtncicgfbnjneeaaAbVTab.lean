/- a table of codes, over the machine of values: Code, none. -/
import Derived.Test.YtncicgfbnjneeaaProg
import Derived.Test.YtncicgfbnjneeaaAbV16
import Derived.Test.YtncicgfbnjneeaaAbFacts
import Derived.Test.YtncicgfbnjneeaaAbBitsM
import Derived.Test.YtncicgfbnjneeaaAbVBits
import Derived.Test.YtncicgfbnjneeaaAbVBitsT
import Derived.Test.YtncicgfbnjneeaaAbVLen
import Derived.Test.YtncicgfbnjneeaaAbVCheck
import Derived.Test.YtncicgfbnjneeaaAbVCodes
import Derived.Test.YtncicgfbnjneeaaAbVRCodes
import Derived.Test.YtncicgfbnjneeaaAbVNew
import Derived.Test.YtncicgfbnjneeaaAbVNewB
import Derived.KernelRfl
import Derived.Laws.BitsAllLaws
set_option linter.unusedVariables false
set_option linter.unusedSimpArgs false
set_option maxRecDepth 100000
set_option maxHeartbeats 4000000
namespace Go.Proofs.Ytncicgfbnjneeaa.VTab
open Go.RowKit Go.Proofs.AbM Go.Proofs.Ytncicgfbnjneeaa.Facts Go.Proofs.Ytncicgfbnjneeaa.BitsM Go.Proofs.Ytncicgfbnjneeaa.VBits Go.Proofs.Ytncicgfbnjneeaa.VBitsT Go.Proofs.Ytncicgfbnjneeaa.VLen Go.Proofs.Ytncicgfbnjneeaa.VCheck Go.Proofs.Ytncicgfbnjneeaa.VCodes Go.Proofs.Ytncicgfbnjneeaa.VRCodes Go.Proofs.Ytncicgfbnjneeaa.VNew Go.Proofs.Ytncicgfbnjneeaa.VNewB
attribute [local go_sem] vawp_skip_eq vawp_seq_eq vawp_region_eq vawp_cond_g vawp_block_eq vawp_exit_eq vawp_ret_eq thenV_ret thenV_exit thenV_normal inBlockV_normal inBlockV_ret inBlockV_exit resKV_nil resKV_tmp resKV_cell oneV_one oneV_nil oneV_more initV_nil initV_cons updV_at evv_tmp evv_func evv_global evv_int evv_bool evv_str evv_snil evv_pnil evv_agg ofV3_int ofV3_bool ofV3_str ofV3_snil ofV3_pnil vok_tmp vok_func vok_global vok_int vok_bool vok_str vok_snil vok_pnil vok_agg cloV3_int cloV3_bool cloV3_str cloV3_snil cloV3_pnil voks_nil voks_cons scV_int scV_bool scV_str isBlV_b isBV_t isBV_f lwV_none lwV_sc lwV_agg lwV_tup lwV_isl lwV_own lwV_op lwV_ip lwV_fn lwV_junk vops_nil vops_n vops_s gsN_eq vop dstOk_some dstOk_none pkV_b blkV_set eRead_f eRead_t vLoad_op vLoad_ip vStore_op cells_sc cells_isl cells_own cells_op cells_ip cells_fn cells_agg parts_sc parts_isl parts_own parts_op parts_ip parts_fn parts_agg one_sc one_isl one_own one_op one_ip one_fn vField_op vField_ip ePart_f ePart_t vFieldV_agg vIx_isl vIx_own vIx_op vIx_ip vIxV_agg vIxV_str vLen_str vLen_isl vLen_own vLen_agg bndE_none bndE_int vSlice_isl vSlice_str vBin_add vBin_sub vBin_mul vBin_quo vBin_rem vBin_and vBin_or vBin_xor vBin_andNot vBin_eql vBin_neq vBin_lss vBin_leq vBin_gtr vBin_geq vBin_shr_i8 vBin_shl_i8 vBin_shr_i16 vBin_shl_i16 vBin_shr_i32 vBin_shl_i32 vBin_shr_i64 vBin_shl_i64 vBin_shr_u8 vBin_shl_u8 vBin_shr_u16 vBin_shl_u16 vBin_shr_u32 vBin_shl_u32 vBin_shr_u64 vBin_shl_u64 vBin_seq vBin_sne vBin_isln vBin_opn vBin_ipn ex_sc ex_sc2 ex_sc3 ex_tup calleeV wSc_pb wSc_pi wSc_not wSc_neg wSc_com wSc_min2 wSc_max2 vfold_nil vfold_one vfold_cons vfill_nil vfill_e eFill_s vBuild vBox vAlloc setV_map setV_zs setV_zn setV_s hset_hset eConv_ss vConv_e iv_eq ivI_eq ex_get ex_getI set_iv set_ivI okNil isNilV isSlV hdel_at hset_at List.map_toArray List.map_cons List.map_nil List.nil_append List.cons_append List.append_nil List.toList_toArray List.getElem?_toArray List.getElem_toArray List.getElem_cons_zero List.getElem_cons_succ List.getElem?_cons_zero List.getElem?_cons_succ List.set_cons_zero List.set_cons_succ List.set_set List.length_cons List.length_nil List.length_set List.length_map List.all_cons List.all_nil List.drop_zero List.drop_succ_cons List.take_succ_cons List.take_zero List.flatMap_cons Bool.and_eq_true true_and and_true if_true if_false ite_true ite_false forall_eq' forall_eq exists_eq_left exists_eq_left' exists_eq' Value.bool.injEq Value.int.injEq Value.string.injEq Value.pointer.injEq Option.some.injEq AV.sc.injEq AV.op.injEq AV.ip.injEq AV.own.injEq AV.agg.injEq VB.cells.injEq VB.iter.injEq Prod.mk.injEq decide_eq_true_eq decide_eq_false_iff_not Nat.reduceEqDiff Nat.reduceLT Nat.reduceLeDiff Nat.reduceSub Nat.reduceBEq reduceIte Int.reduceLE Int.reduceLT Int.reduceToNat Int.reduceNeg Int.reduceEq Int.reduceNe Int.cast_ofNat_Int Nat.reduceMul Nat.reduceAdd Nat.reduceDiv Nat.reduceMod Nat.reducePow Int.reduceSub Int.reduceAdd Int.reduceMul Int.reducePow Option.isSome_some Option.isSome_none Option.bind_some Option.map_some Option.map_none Option.toList_some Option.toList_none true_or or_true or_false false_or Bool.not_true Bool.not_false Bool.not_eq_true Bool.false_eq_true Bool.not_not false_implies true_implies implies_true Nat.zero_add Nat.add_zero Nat.mul_one Bool.not_eq_true' Bool.true_eq_false Bool.and_true Bool.true_and Bool.and_false Bool.false_and Bool.or_true Bool.true_or Bool.or_false Bool.false_or Option.isNone_some Option.isNone_none Int.reduceBEq Int.reduceBNe beq_self_eq_true bne_self_eq_false beq_iff_eq not_false_eq_true not_true_eq_false Decidable.not_not bne_iff_ne ne_eq Int.toNat_natCast gt_lt ge_le c_add c_mul c_sub c_addn c_nadd c_muln c_nmul c_subn c_nsub c_divn c_modn c_div c_mod c_tdivn c_tmodn c_tdiv c_tmod c_pow c_nn c_beq c_beqn c_bne c_bnen wr64 wr32 wru64 wru32 wru16 wru8 c_if c_if1 c_if2 c_lt c_le c_eq c_ltn c_len c_nlt c_nle c_eqn m_drop m_take Nat.add_sub_cancel_left Nat.add_sub_cancel Int.reduceTMod Int.reduceTDiv Int.reduceMod Int.reduceDiv isC_some hset_ne hdel_ne hdel_hset hdel_hset_ne blkV_nset blkV_ndel hset_hdel gV_t gV_f isGdV_b isGdV_u isBV_u isGdV_g isBV_gt isBV_gf decide_true decide_false Bool.or_eq_false_iff eq_self Nat.lt_irrefl Int.lt_irrefl Nat.le_refl Int.le_refl
attribute [local go_sem high] vops_pk vops_mv vops_as vops_smv pk_and pk_or pk_gand pk_gor pk_orn pk_gorn
attribute [local go_sem] ag3 sz3 zc3 ik3 ag4 sz4 zc4 ag5 sz5 zc5 ik5 ag22 sz22 el22 zc22 is22 ag24 sz24 el24 zc24 is24 ag25 sz25 zc25 ik25 ag30 sz30 zc30 ik30 ag31 sz31 zc31 pt31 ag38 sz38 el38 zc38 is38 ag39 sz39 zc39 pt39 ag49 sz49 zc49 bo49 ag54 sz54 ea54 an54 zc54 bo54 ag58 sz58 ea58 an58 zc58 bo58 ag60 sz60 zc60 bo60 ag62 sz62 zc62 bo62 ag68 sz68 zc68 pt68 ag72 sz72 zc72 ag73 sz73 ea73 an73 zc73 bo73 of49_0 fd49_0 of49_1 fd49_1 of60_0 fd60_0 of60_1 fd60_1 of60_2 fd60_2 of60_3 fd60_3 of60_4 fd60_4 of62_0 fd62_0 of62_1 fd62_1 eqb neb
section
variable {n : Nat} {h : VH} {K : AV → VH → Prop}
attribute [local go_sem] Nat.zero_le
section
variable {nl : Bool} {ls : List Nat}
theorem tab_0 : (tabC nl ls)[0]? = some (.isl nl ls.length (ls.map (iv .i64))) := by
  unfold tabC; rw [tabA_pre (by rw [preT_len]; omega)]; rfl
theorem tab_1 : (tabC nl ls)[1]? = some (.isl false ls.length ((codesL ls).map (iv .u32))) := by
  unfold tabC; rw [tabA_pre (by rw [preT_len]; omega)]; rfl
theorem tab_first {l : Nat} (hl : l < 16) : (tabC nl ls)[2 + l]? = some (.sc (.int .u32 ((firstL ls l : Nat)))) := by
  unfold tabC
  rw [tabA_pre (by rw [preT_len]; omega), Nat.add_comm]
  show ((firstsL ls).map (iv .u32))[l]? = _
  unfold firstsL
  rw [List.map_map, List.getElem?_map, List.getElem?_range hl]; rfl
theorem tab_sym {l : Nat} (hl : l < 16) : (tabC nl ls)[18 + l]? = some (symI (symL ls ls.length l)) := tabA_sym (preT_len nl ls) hl
theorem tab_long : (tabC nl ls)[34]? = some (.sc (.int .i64 ((longL ls ls.length : Nat)))) := tabA_lg (preT_len nl ls)
end
def codeR (ls : List Nat) (s : Int) : Nat × Nat := if s < 0 ∨ (ls.length : Int) ≤ s then (0, 0) else if ls.getD s.toNat 0 = 0 then (0, 0) else (codeS ls s.toNat, ls.getD s.toNat 0)
theorem tcode_v {nl : Bool} {ls : List Nat} {s : Int} (hb : ls.length ≤ 288) (hK : K (.tup [(.sc (.int .u32 (((codeR ls s).1 : Nat)))), (.sc (.int .i64 (((codeR ls s).2 : Nat))))]) h) : VC Try.prog GL (n + 1) 12 [.ip (tabC nl ls) 0, (.sc (.int .i64 (s)))] h K := by
  refine VC_go Try.func12 rfl (by decide) Try.ntmps12 Try.results12 rfl fun Q hq hn => ?_
  have e1 := tab_0 (nl := nl) (ls := ls)
  have e2 := tab_1 (nl := nl) (ls := ls)
  have hcl := codes_len ls
  by_cases h1 : s < 0
  · have e3 := decide_eq_true h1
    have hr : codeR ls s = (0, 0) := if_pos (.inl h1)
    rw [hr] at hK
    repeat (first | (simp (maxSteps := 1000000) only [↓reduceIte, go_sem, e1, e2, e3]) | (simp (maxSteps := 1000000) (disch := first | omega | assumption) only [BB, e1, e2, e3]) | with_reducible refine vawp_draw mixed (by kernel_rfl) ?_ | with_reducible first | refine lwV_out ?_ | refine lwV_out0 ?_ | refine lkC_out ?_ | refine And.intro (by omega) ?_ | fail)
    first | (with_reducible refine Gst.now ?_) | (with_reducible refine lkC_out ?_; simp only [vawp_skip_eq, thenV_normal]; with_reducible refine Gst.now ?_) | (with_reducible refine lkC_out ?_)
    try simp only [vawp_seq_eq, vawp_block_eq]
    with_reducible refine vawp_regq ?_
    simp only [List.toList_toArray]
    repeat (first | (apply vopsQ_pk; (case hd => rfl); (case h1 => simp (disch := first | omega | assumption) only [↓reduceIte, go_sem, e1, e2, e3]); (case h2 => simp (disch := first | omega | assumption) only [↓reduceIte, go_sem, e1, e2, e3]); (case h3 => simp (disch := first | omega | assumption) only [↓reduceIte, go_sem, e1, e2, e3]); (case hb => simp (disch := first | omega | assumption) only [↓reduceIte, go_sem, e1, e2, e3]); (try simp (disch := first | omega | assumption) only [↓reduceIte, go_sem, e1, e2, e3])) | (apply vopsQ_n; (case hd => rfl); (case hq => (intro K' hk'; repeat (first | simp (maxSteps := 4000000) (disch := first | omega | assumption) only [↓reduceIte, go_sem, e1, e2, e3] | with_reducible refine Gst.now ?_ | with_reducible refine vawp_draw mixed (by kernel_rfl) ?_ | with_reducible first | refine lwV_out ?_ | refine lwV_out0 ?_ | refine lkC_out ?_ | refine And.intro (by omega) ?_ | fail); exact hk'))) | (apply vopsQ_gt; (case hd => rfl); (case h1 => rfl); (case h2 => rfl); (case h3 => simp (disch := first | omega | assumption) only [↓reduceIte, go_sem]); (case hq => (intro K' hk'; repeat (first | simp (maxSteps := 4000000) (disch := first | omega | assumption) only [↓reduceIte, go_sem, e1, e2, e3] | with_reducible refine Gst.now ?_ | with_reducible refine vawp_draw mixed (by kernel_rfl) ?_ | with_reducible first | refine lwV_out ?_ | refine lwV_out0 ?_ | refine lkC_out ?_ | refine And.intro (by omega) ?_ | fail); exact hk'))) | (apply vopsQ_gf'; (case hd => rfl); (case h1 => rfl); (case h2 => rfl); (case h3 => simp (disch := first | omega | assumption) only [↓reduceIte, go_sem, e1, e2, e3])) | (apply vopsQ_gj; (case hd => rfl); (case h1 => rfl); (case h2 => rfl); (case h3 => simp (disch := first | omega | assumption) only [↓reduceIte, go_sem, e1, e2, e3])) | (apply vopsQ_gpk; (case hd => rfl); (case h1 => rfl); (case h2 => rfl); (case h3 => simp (disch := first | omega | assumption) only [↓reduceIte, go_sem, e1, e2, e3]); (case k1 => simp (disch := first | omega | assumption) only [↓reduceIte, go_sem, e1, e2, e3]); (case k2 => simp (disch := first | omega | assumption) only [↓reduceIte, go_sem, e1, e2, e3]); (case k3 => simp (disch := first | omega | assumption) only [↓reduceIte, go_sem, e1, e2, e3]); (case hb => (intro hc; (try simp (disch := first | omega | assumption) only [↓reduceIte, go_sem, e1, e2, e3] at hc); simp (disch := first | omega | assumption) only [↓reduceIte, go_sem, hc, e1, e2, e3])); (try simp (disch := first | omega | assumption) only [↓reduceIte, go_sem, e1, e2, e3])) | (apply vopsQ_gu; (case hd => rfl); (case h1 => rfl); (case h2 => rfl); (case h3 => simp (disch := first | omega | assumption) only [↓reduceIte, go_sem, e1, e2, e3]); (case hq => (intro hc K' hk'; (try simp (disch := first | omega | assumption) only [↓reduceIte, go_sem, e1, e2, e3] at hc); repeat (first | simp (maxSteps := 4000000) (disch := first | omega | assumption) only [↓reduceIte, go_sem, hc, e1, e2, e3] | with_reducible refine Gst.now ?_ | with_reducible refine vawp_draw mixed (by kernel_rfl) ?_ | with_reducible first | refine lwV_out ?_ | refine lwV_out0 ?_ | refine lkC_out ?_ | refine And.intro (by omega) ?_ | fail); exact hk')); (try simp (disch := first | omega | assumption) only [↓reduceIte, go_sem, e1, e2, e3])) | fail)
    simp only [vopsQ_nil]
    repeat (first | (simp (maxSteps := 1000000) only [↓reduceIte, go_sem, e1, e2, e3]) | (simp (maxSteps := 1000000) (disch := first | omega | assumption) only [BB, e1, e2, e3]) | with_reducible refine Gst.now ?_ | with_reducible refine vawp_draw mixed (by kernel_rfl) ?_ | with_reducible first | refine lwV_out ?_ | refine lwV_out0 ?_ | refine lkC_out ?_ | refine And.intro (by omega) ?_ | fail)
    refine hq _ _ ?_
    repeat (first | (simp (maxSteps := 1000000) only [↓reduceIte, go_sem, e1, e2, e3]) | (simp (maxSteps := 1000000) (disch := first | omega | assumption) only [BB, e1, e2, e3]) | with_reducible refine Gst.now ?_ | with_reducible refine vawp_draw mixed (by kernel_rfl) ?_ | with_reducible first | refine lwV_out ?_ | refine lwV_out0 ?_ | refine lkC_out ?_ | refine And.intro (by omega) ?_ | fail)
    exact .now hK
  have e3 := decide_eq_false h1
  obtain ⟨s, rfl⟩ := Int.eq_ofNat_of_zero_le (a := s) (by omega)
  by_cases h2 : ls.length ≤ s
  · have e4 := decide_eq_true h2
    have hr : codeR ls (s : Nat) = (0, 0) := if_pos (.inr (by omega))
    rw [hr] at hK
    repeat (first | (simp (maxSteps := 1000000) only [↓reduceIte, go_sem, e1, e2, e3, e4]) | (simp (maxSteps := 1000000) (disch := first | omega | assumption) only [BB, e1, e2, e3, e4]) | with_reducible refine vawp_draw mixed (by kernel_rfl) ?_ | with_reducible first | refine lwV_out ?_ | refine lwV_out0 ?_ | refine lkC_out ?_ | refine And.intro (by omega) ?_ | fail)
    first | (with_reducible refine Gst.now ?_) | (with_reducible refine lkC_out ?_; simp only [vawp_skip_eq, thenV_normal]; with_reducible refine Gst.now ?_) | (with_reducible refine lkC_out ?_)
    try simp only [vawp_seq_eq, vawp_block_eq]
    with_reducible refine vawp_regq ?_
    simp only [List.toList_toArray]
    repeat (first | (apply vopsQ_pk; (case hd => rfl); (case h1 => simp (disch := first | omega | assumption) only [↓reduceIte, go_sem, e1, e2, e3, e4]); (case h2 => simp (disch := first | omega | assumption) only [↓reduceIte, go_sem, e1, e2, e3, e4]); (case h3 => simp (disch := first | omega | assumption) only [↓reduceIte, go_sem, e1, e2, e3, e4]); (case hb => simp (disch := first | omega | assumption) only [↓reduceIte, go_sem, e1, e2, e3, e4]); (try simp (disch := first | omega | assumption) only [↓reduceIte, go_sem, e1, e2, e3, e4])) | (apply vopsQ_n; (case hd => rfl); (case hq => (intro K' hk'; repeat (first | simp (maxSteps := 4000000) (disch := first | omega | assumption) only [↓reduceIte, go_sem, e1, e2, e3, e4] | with_reducible refine Gst.now ?_ | with_reducible refine vawp_draw mixed (by kernel_rfl) ?_ | with_reducible first | refine lwV_out ?_ | refine lwV_out0 ?_ | refine lkC_out ?_ | refine And.intro (by omega) ?_ | fail); exact hk'))) | (apply vopsQ_gt; (case hd => rfl); (case h1 => rfl); (case h2 => rfl); (case h3 => simp (disch := first | omega | assumption) only [↓reduceIte, go_sem]); (case hq => (intro K' hk'; repeat (first | simp (maxSteps := 4000000) (disch := first | omega | assumption) only [↓reduceIte, go_sem, e1, e2, e3, e4] | with_reducible refine Gst.now ?_ | with_reducible refine vawp_draw mixed (by kernel_rfl) ?_ | with_reducible first | refine lwV_out ?_ | refine lwV_out0 ?_ | refine lkC_out ?_ | refine And.intro (by omega) ?_ | fail); exact hk'))) | (apply vopsQ_gf'; (case hd => rfl); (case h1 => rfl); (case h2 => rfl); (case h3 => simp (disch := first | omega | assumption) only [↓reduceIte, go_sem, e1, e2, e3, e4])) | (apply vopsQ_gj; (case hd => rfl); (case h1 => rfl); (case h2 => rfl); (case h3 => simp (disch := first | omega | assumption) only [↓reduceIte, go_sem, e1, e2, e3, e4])) | (apply vopsQ_gpk; (case hd => rfl); (case h1 => rfl); (case h2 => rfl); (case h3 => simp (disch := first | omega | assumption) only [↓reduceIte, go_sem, e1, e2, e3, e4]); (case k1 => simp (disch := first | omega | assumption) only [↓reduceIte, go_sem, e1, e2, e3, e4]); (case k2 => simp (disch := first | omega | assumption) only [↓reduceIte, go_sem, e1, e2, e3, e4]); (case k3 => simp (disch := first | omega | assumption) only [↓reduceIte, go_sem, e1, e2, e3, e4]); (case hb => (intro hc; (try simp (disch := first | omega | assumption) only [↓reduceIte, go_sem, e1, e2, e3, e4] at hc); simp (disch := first | omega | assumption) only [↓reduceIte, go_sem, hc, e1, e2, e3, e4])); (try simp (disch := first | omega | assumption) only [↓reduceIte, go_sem, e1, e2, e3, e4])) | (apply vopsQ_gu; (case hd => rfl); (case h1 => rfl); (case h2 => rfl); (case h3 => simp (disch := first | omega | assumption) only [↓reduceIte, go_sem, e1, e2, e3, e4]); (case hq => (intro hc K' hk'; (try simp (disch := first | omega | assumption) only [↓reduceIte, go_sem, e1, e2, e3, e4] at hc); repeat (first | simp (maxSteps := 4000000) (disch := first | omega | assumption) only [↓reduceIte, go_sem, hc, e1, e2, e3, e4] | with_reducible refine Gst.now ?_ | with_reducible refine vawp_draw mixed (by kernel_rfl) ?_ | with_reducible first | refine lwV_out ?_ | refine lwV_out0 ?_ | refine lkC_out ?_ | refine And.intro (by omega) ?_ | fail); exact hk')); (try simp (disch := first | omega | assumption) only [↓reduceIte, go_sem, e1, e2, e3, e4])) | fail)
    simp only [vopsQ_nil]
    repeat (first | (simp (maxSteps := 1000000) only [↓reduceIte, go_sem, e1, e2, e3, e4]) | (simp (maxSteps := 1000000) (disch := first | omega | assumption) only [BB, e1, e2, e3, e4]) | with_reducible refine Gst.now ?_ | with_reducible refine vawp_draw mixed (by kernel_rfl) ?_ | with_reducible first | refine lwV_out ?_ | refine lwV_out0 ?_ | refine lkC_out ?_ | refine And.intro (by omega) ?_ | fail)
    refine hq _ _ ?_
    repeat (first | (simp (maxSteps := 1000000) only [↓reduceIte, go_sem, e1, e2, e3, e4]) | (simp (maxSteps := 1000000) (disch := first | omega | assumption) only [BB, e1, e2, e3, e4]) | with_reducible refine Gst.now ?_ | with_reducible refine vawp_draw mixed (by kernel_rfl) ?_ | with_reducible first | refine lwV_out ?_ | refine lwV_out0 ?_ | refine lkC_out ?_ | refine And.intro (by omega) ?_ | fail)
    exact .now hK
  have e4 := decide_eq_false h2
  have e5 : (s < ls.length) = True := eq_true (by omega)
  have hr0 : codeR ls (s : Nat) = if ls.getD s 0 = 0 then (0, 0) else (codeS ls s, ls.getD s 0) := by
    unfold codeR; rw [if_neg (by omega), Int.toNat_natCast]
  rw [hr0] at hK
  repeat (first | (simp (maxSteps := 1000000) only [↓reduceIte, go_sem, e1, e2, e3, e4, e5]) | (simp (maxSteps := 1000000) (disch := first | omega | assumption) only [BB, e1, e2, e3, e4, e5]) | with_reducible refine vawp_draw mixed (by kernel_rfl) ?_ | with_reducible first | refine lwV_out ?_ | refine lwV_out0 ?_ | refine lkC_out ?_ | refine And.intro (by omega) ?_ | fail)
  first | (with_reducible refine Gst.now ?_) | (with_reducible refine lkC_out ?_; simp only [vawp_skip_eq, thenV_normal]; with_reducible refine Gst.now ?_) | (with_reducible refine lkC_out ?_)
  try simp only [vawp_seq_eq, vawp_block_eq]
  with_reducible refine vawp_regq ?_
  simp only [List.toList_toArray]
  repeat (first | (apply vopsQ_pk; (case hd => rfl); (case h1 => simp (disch := first | omega | assumption) only [↓reduceIte, go_sem, e1, e2, e3, e4, e5]); (case h2 => simp (disch := first | omega | assumption) only [↓reduceIte, go_sem, e1, e2, e3, e4, e5]); (case h3 => simp (disch := first | omega | assumption) only [↓reduceIte, go_sem, e1, e2, e3, e4, e5]); (case hb => simp (disch := first | omega | assumption) only [↓reduceIte, go_sem, e1, e2, e3, e4, e5]); (try simp (disch := first | omega | assumption) only [↓reduceIte, go_sem, e1, e2, e3, e4, e5])) | (apply vopsQ_n; (case hd => rfl); (case hq => (intro K' hk'; repeat (first | simp (maxSteps := 4000000) (disch := first | omega | assumption) only [↓reduceIte, go_sem, e1, e2, e3, e4, e5] | with_reducible refine Gst.now ?_ | with_reducible refine vawp_draw mixed (by kernel_rfl) ?_ | with_reducible first | refine lwV_out ?_ | refine lwV_out0 ?_ | refine lkC_out ?_ | refine And.intro (by omega) ?_ | fail); exact hk'))) | (apply vopsQ_gt; (case hd => rfl); (case h1 => rfl); (case h2 => rfl); (case h3 => simp (disch := first | omega | assumption) only [↓reduceIte, go_sem]); (case hq => (intro K' hk'; repeat (first | simp (maxSteps := 4000000) (disch := first | omega | assumption) only [↓reduceIte, go_sem, e1, e2, e3, e4, e5] | with_reducible refine Gst.now ?_ | with_reducible refine vawp_draw mixed (by kernel_rfl) ?_ | with_reducible first | refine lwV_out ?_ | refine lwV_out0 ?_ | refine lkC_out ?_ | refine And.intro (by omega) ?_ | fail); exact hk'))) | (apply vopsQ_gf'; (case hd => rfl); (case h1 => rfl); (case h2 => rfl); (case h3 => simp (disch := first | omega | assumption) only [↓reduceIte, go_sem, e1, e2, e3, e4, e5])) | (apply vopsQ_gj; (case hd => rfl); (case h1 => rfl); (case h2 => rfl); (case h3 => simp (disch := first | omega | assumption) only [↓reduceIte, go_sem, e1, e2, e3, e4, e5])) | (apply vopsQ_gpk; (case hd => rfl); (case h1 => rfl); (case h2 => rfl); (case h3 => simp (disch := first | omega | assumption) only [↓reduceIte, go_sem, e1, e2, e3, e4, e5]); (case k1 => simp (disch := first | omega | assumption) only [↓reduceIte, go_sem, e1, e2, e3, e4, e5]); (case k2 => simp (disch := first | omega | assumption) only [↓reduceIte, go_sem, e1, e2, e3, e4, e5]); (case k3 => simp (disch := first | omega | assumption) only [↓reduceIte, go_sem, e1, e2, e3, e4, e5]); (case hb => (intro hc; (try simp (disch := first | omega | assumption) only [↓reduceIte, go_sem, e1, e2, e3, e4, e5] at hc); simp (disch := first | omega | assumption) only [↓reduceIte, go_sem, hc, e1, e2, e3, e4, e5])); (try simp (disch := first | omega | assumption) only [↓reduceIte, go_sem, e1, e2, e3, e4, e5])) | (apply vopsQ_gu; (case hd => rfl); (case h1 => rfl); (case h2 => rfl); (case h3 => simp (disch := first | omega | assumption) only [↓reduceIte, go_sem, e1, e2, e3, e4, e5]); (case hq => (intro hc K' hk'; (try simp (disch := first | omega | assumption) only [↓reduceIte, go_sem, e1, e2, e3, e4, e5] at hc); repeat (first | simp (maxSteps := 4000000) (disch := first | omega | assumption) only [↓reduceIte, go_sem, hc, e1, e2, e3, e4, e5] | with_reducible refine Gst.now ?_ | with_reducible refine vawp_draw mixed (by kernel_rfl) ?_ | with_reducible first | refine lwV_out ?_ | refine lwV_out0 ?_ | refine lkC_out ?_ | refine And.intro (by omega) ?_ | fail); exact hk')); (try simp (disch := first | omega | assumption) only [↓reduceIte, go_sem, e1, e2, e3, e4, e5])) | fail)
  simp only [vopsQ_nil]
  repeat (first | (simp (maxSteps := 1000000) only [↓reduceIte, go_sem, e1, e2, e3, e4, e5]) | (simp (maxSteps := 1000000) (disch := first | omega | assumption) only [BB, e1, e2, e3, e4, e5]) | with_reducible refine Gst.now ?_ | with_reducible refine vawp_draw mixed (by kernel_rfl) ?_ | with_reducible first | refine lwV_out ?_ | refine lwV_out0 ?_ | refine lkC_out ?_ | refine And.intro (by omega) ?_ | fail)
  split
  · rename_i h3
    have h4 : ls.getD s 0 = 0 := by simpa using h3
    rw [if_pos h4] at hK
    repeat (first | (simp (maxSteps := 1000000) only [↓reduceIte, go_sem, e1, e2, e3, e4, e5]) | (simp (maxSteps := 1000000) (disch := first | omega | assumption) only [BB, e1, e2, e3, e4, e5]) | with_reducible refine Gst.now ?_ | with_reducible refine vawp_draw mixed (by kernel_rfl) ?_ | with_reducible first | refine lwV_out ?_ | refine lwV_out0 ?_ | refine lkC_out ?_ | refine And.intro (by omega) ?_ | fail)
    refine hq _ _ ?_
    repeat (first | (simp (maxSteps := 1000000) only [↓reduceIte, go_sem, e1, e2, e3, e4, e5]) | (simp (maxSteps := 1000000) (disch := first | omega | assumption) only [BB, e1, e2, e3, e4, e5]) | with_reducible refine Gst.now ?_ | with_reducible refine vawp_draw mixed (by kernel_rfl) ?_ | with_reducible first | refine lwV_out ?_ | refine lwV_out0 ?_ | refine lkC_out ?_ | refine And.intro (by omega) ?_ | fail)
    exact .now hK
  · rename_i h3
    have h4 : ¬ ls.getD s 0 = 0 := by simpa using h3
    rw [if_neg h4] at hK
    have e6 := codes_get ls s (by omega)
    have e7 : (s < (codesL ls).length) = True := eq_true (by omega)
    repeat (first | (simp (maxSteps := 1000000) only [↓reduceIte, go_sem, e1, e2, e3, e4, e5, e6, e7]) | (simp (maxSteps := 1000000) (disch := first | omega | assumption) only [BB, e1, e2, e3, e4, e5, e6, e7]) | with_reducible refine Gst.now ?_ | with_reducible refine vawp_draw mixed (by kernel_rfl) ?_ | with_reducible first | refine lwV_out ?_ | refine lwV_out0 ?_ | refine lkC_out ?_ | refine And.intro (by omega) ?_ | fail)
    refine hq _ _ ?_
    repeat (first | (simp (maxSteps := 1000000) only [↓reduceIte, go_sem, e1, e2, e3, e4, e5, e6, e7]) | (simp (maxSteps := 1000000) (disch := first | omega | assumption) only [BB, e1, e2, e3, e4, e5, e6, e7]) | with_reducible refine Gst.now ?_ | with_reducible refine vawp_draw mixed (by kernel_rfl) ?_ | with_reducible first | refine lwV_out ?_ | refine lwV_out0 ?_ | refine lkC_out ?_ | refine And.intro (by omega) ?_ | fail)
    exact .now hK
def sLen (ls : List Nat) (l : Nat) : Nat := (symL ls ls.length l).length
def noneAt (ls : List Nat) (code n l : Nat) : Bool := !(decide (0 < sLen ls l) && decide (code * 2 ^ (l - n) < firstL ls l + sLen ls l))
/-- whether no code begins so: from a length on -/
def noneF (ls : List Nat) (code n : Nat) : Nat → Bool
  | 0 => true
  | d + 1 => noneAt ls code n (longL ls ls.length + 1 - (d + 1)) && noneF ls code n d
def noneB (ls : List Nat) (code n : Nat) : Bool := noneF ls code n (longL ls ls.length + 1 - n)
theorem sLen_cnt (ls : List Nat) (l : Nat) (hl : l < 16) : sLen ls l = (cntL ls).getD l 0 := by
  have key : ∀ i, i ≤ ls.length → (symL ls i l).length = if l = 0 then 0 else (ls.take i).count l := by
    intro i
    induction i with
    | zero => intro _; split <;> simp [symL]
    | succ i ih =>
      intro hi
      rw [symL_next, List.length_append, ih (by omega), count_take (by omega)]
      by_cases h0 : l = 0
      · rw [if_pos h0, if_pos h0, if_neg (by omega)]; rfl
      · rw [if_neg h0, if_neg h0]
        by_cases h1 : ls.getD i 0 = l
        · rw [if_pos ⟨by omega, h1⟩, if_pos h1]; rfl
        · rw [if_neg (fun hh => h1 hh.2), if_neg h1]; rfl
  unfold sLen
  rw [key _ (Nat.le_refl _), List.take_length, cntL_get ls l hl]
theorem long_le {ls : List Nat} (h15 : ∀ x ∈ ls, x ≤ 15) : ∀ i, longL ls i ≤ 15
  | 0 => Nat.zero_le _
  | i + 1 => by
    rw [longL]
    split
    · exact getD_leN h15
    · exact long_le h15 i
theorem none_v {nl : Bool} {ls : List Nat} {code m : Nat} (hb : ls.length ≤ 288) (h15 : ∀ x ∈ ls, x ≤ 15) (hs : sumL ls ≤ 32768) (hm : m ≤ 15) (hc : code < 2 ^ m) (hK : K (.sc (.bool (noneB ls code m))) h) : VC Try.prog GL (n + 1) 26 [.ip (tabC nl ls) 0, (.sc (.int .u32 ((code : Nat)))), (.sc (.int .i64 ((m : Nat))))] h K := by
  refine VC_go Try.func26 rfl (by decide) Try.ntmps26 Try.results26 rfl fun Q hq hn => ?_
  have e1 := tab_long (nl := nl) (ls := ls)
  have hlg := long_le h15 ls.length
  have hnf : noneB ls code m = noneF ls code m (longL ls ls.length + 1 - m) := rfl
  have hns : ∀ d, noneF ls code m (d + 1) = (noneAt ls code m (longL ls ls.length + 1 - (d + 1)) && noneF ls code m d) := fun _ => rfl
  have hfl := fun l (hl : l ≤ 15) => first_lt h15 hs hl
  have hsl := sLen_cnt ls
  have hsy : ∀ l, symI (symL ls ls.length l) = .isl (decide (symL ls ls.length l = [])) (sLen ls l) ((symL ls ls.length l).map (iv .i64)) := fun _ => rfl
  generalize hL : longL ls ls.length = L at *
  repeat (first | (simp (maxSteps := 1000000) only [↓reduceIte, go_sem, e1]) | (simp (maxSteps := 1000000) (disch := first | omega | assumption) only [BB, e1]) | with_reducible refine Gst.now ?_ | with_reducible refine vawp_draw mixed (by kernel_rfl) ?_ | with_reducible first | refine lwV_out ?_ | refine lwV_out0 ?_ | refine lkC_out ?_ | refine And.intro (by omega) ?_ | fail)
  refine vawp_loop (k := L + 1 - m) (fun c ρ h1 => ∃ i : Nat, c + i = L + 1 - m ∧ ρ 0 = .ip (tabC nl ls) 0 ∧ ρ 1 = (.sc (.int .u32 ((code : Nat)))) ∧ ρ 2 = (.sc (.int .i64 ((m : Nat)))) ∧ ρ 7 = (.sc (.int .i64 ((m + i : Nat)))) ∧ noneB ls code m = noneF ls code m c ∧ h1 = h) ?_ ?_
  · refine ⟨0, by omega, ?_⟩
    repeat (first | (simp (maxSteps := 1000000) only [↓reduceIte, go_sem, e1]) | (simp (maxSteps := 1000000) (disch := first | omega | assumption) only [BB, e1]) | with_reducible refine Gst.now ?_ | with_reducible refine vawp_draw mixed (by kernel_rfl) ?_ | with_reducible first | refine lwV_out ?_ | refine lwV_out0 ?_ | refine lkC_out ?_ | refine And.intro (by omega) ?_ | fail)
    exact hnf
  · rintro c ρ h1 ⟨i, hci, g0, g1, g2, g7, hnb, rfl⟩
    by_cases hi : m + i ≤ L
    · have e2 := eq_true hi
      obtain ⟨c, rfl⟩ : ∃ c', c = c' + 1 := ⟨c - 1, by omega⟩
      have hli : L + 1 - (c + 1) = m + i := by omega
      have e3 := tab_first (nl := nl) (ls := ls) (l := m + i) (by omega)
      have e4 := tab_sym (nl := nl) (ls := ls) (l := m + i) (by omega)
      rw [hsy] at e4
      have e5 : (m + i < 16) = True := eq_true (by omega)
      rw [hns, hli] at hnb
      have hf1 := hfl (m + i) (by omega)
      rw [← hsl _ (by omega)] at hf1
      have e6 : IntKind.i64.wrap (((m + i : Nat) : Int) - (m : Nat)) = (i : Nat) := by rw [IntKind.wrap_i64]; omega
      have hsi : m + i - m = i := by omega
      have hna : noneAt ls code m (m + i) = !(decide (0 < sLen ls (m + i)) && decide (code * 2 ^ i < firstL ls (m + i) + sLen ls (m + i))) := by unfold noneAt; rw [hsi]
      have hcm : code * 2 ^ i < 2 ^ m * 2 ^ i := Nat.mul_lt_mul_of_pos_right hc (Nat.pow_pos (by decide))
      have hcm2 : 2 ^ m * 2 ^ i ≤ 32768 := by
        rw [← Nat.pow_add]; exact (Nat.pow_le_pow_right (by omega) (by omega) : 2 ^ (m + i) ≤ 2 ^ 15)
      have hcm3 : code * 2 ^ i < 32768 := Nat.lt_of_lt_of_le hcm hcm2
      clear hcm hcm2
      have e9 : IntKind.u32.wrap ((code : Int) * ((2 ^ i : Nat) : Int)) = ((code * 2 ^ i : Nat) : Int) := by
        rw [← Int.natCast_mul, IntKind.wrap_u32]
        generalize code * 2 ^ i = z at *
        omega
      by_cases h0 : 0 < sLen ls (m + i)
      · have e7 := eq_true h0
        have e8 := decide_eq_true h0
        repeat (first | (simp (maxSteps := 1000000) only [↓reduceIte, go_sem, e1, g0, g1, g2, g7, e2, e3, e4, e5, e6, e9, e7, e8]) | (simp (maxSteps := 1000000) (disch := first | omega | assumption) only [BB, e1, g0, g1, g2, g7, e2, e3, e4, e5, e6, e9, e7, e8]) | with_reducible refine Gst.now ?_ | with_reducible refine vawp_draw mixed (by kernel_rfl) ?_ | with_reducible first | refine lwV_out ?_ | refine lwV_out0 ?_ | refine lkC_out ?_ | refine And.intro (by omega) ?_ | fail)
        split
        · rename_i h1
          rw [hna, e8, decide_eq_true h1] at hnb
          have hnb2 : noneB ls code m = false := hnb
          rw [hnb2] at hK
          repeat (first | (simp (maxSteps := 1000000) only [↓reduceIte, go_sem, e1, g0, g1, g2, g7, e2, e3, e4, e5, e6, e9, e7, e8]) | (simp (maxSteps := 1000000) (disch := first | omega | assumption) only [BB, e1, g0, g1, g2, g7, e2, e3, e4, e5, e6, e9, e7, e8]) | with_reducible refine Gst.now ?_ | with_reducible refine vawp_draw mixed (by kernel_rfl) ?_ | with_reducible first | refine lwV_out ?_ | refine lwV_out0 ?_ | refine lkC_out ?_ | refine And.intro (by omega) ?_ | fail)
          refine hq _ _ ?_
          repeat (first | (simp (maxSteps := 1000000) only [↓reduceIte, go_sem, e1, g0, g1, g2, g7, e2, e3, e4, e5, e6, e9, e7, e8]) | (simp (maxSteps := 1000000) (disch := first | omega | assumption) only [BB, e1, g0, g1, g2, g7, e2, e3, e4, e5, e6, e9, e7, e8]) | with_reducible refine Gst.now ?_ | with_reducible refine vawp_draw mixed (by kernel_rfl) ?_ | with_reducible first | refine lwV_out ?_ | refine lwV_out0 ?_ | refine lkC_out ?_ | refine And.intro (by omega) ?_ | fail)
          exact .now hK
        · rename_i h1
          rw [hna, e8, decide_eq_false h1, Bool.and_false, Bool.not_false, Bool.true_and] at hnb
          repeat (first | (simp (maxSteps := 1000000) only [↓reduceIte, go_sem, e1, g0, g1, g2, g7, e2, e3, e4, e5, e6, e9, e7, e8]) | (simp (maxSteps := 1000000) (disch := first | omega | assumption) only [BB, e1, g0, g1, g2, g7, e2, e3, e4, e5, e6, e9, e7, e8]) | with_reducible refine Gst.now ?_ | with_reducible refine vawp_draw mixed (by kernel_rfl) ?_ | with_reducible first | refine lwV_out ?_ | refine lwV_out0 ?_ | refine lkC_out ?_ | refine And.intro (by omega) ?_ | fail)
          exact ⟨c, by omega, i + 1, by omega, by omega, hnb⟩
      · have e7 := eq_false h0
        have e8 := decide_eq_false h0
        rw [hna, e8, Bool.false_and, Bool.not_false, Bool.true_and] at hnb
        repeat (first | (simp (maxSteps := 1000000) only [↓reduceIte, go_sem, e1, g0, g1, g2, g7, e2, e3, e4, e5, e6, e9, e7, e8]) | (simp (maxSteps := 1000000) (disch := first | omega | assumption) only [BB, e1, g0, g1, g2, g7, e2, e3, e4, e5, e6, e9, e7, e8]) | with_reducible refine Gst.now ?_ | with_reducible refine vawp_draw mixed (by kernel_rfl) ?_ | with_reducible first | refine lwV_out ?_ | refine lwV_out0 ?_ | refine lkC_out ?_ | refine And.intro (by omega) ?_ | fail)
        exact ⟨c, by omega, i + 1, by omega, by omega, hnb⟩
    · have e2 := eq_false hi
      have hc0 : c = 0 := by omega
      rw [hc0] at hnb
      have hnb2 : noneB ls code m = true := hnb
      rw [hnb2] at hK
      repeat (first | (simp (maxSteps := 1000000) only [↓reduceIte, go_sem, e1, g0, g1, g2, g7, e2]) | (simp (maxSteps := 1000000) (disch := first | omega | assumption) only [BB, e1, g0, g1, g2, g7, e2]) | with_reducible refine Gst.now ?_ | with_reducible refine vawp_draw mixed (by kernel_rfl) ?_ | with_reducible first | refine lwV_out ?_ | refine lwV_out0 ?_ | refine lkC_out ?_ | refine And.intro (by omega) ?_ | fail)
      refine hq _ _ ?_
      repeat (first | (simp (maxSteps := 1000000) only [↓reduceIte, go_sem, e1, g0, g1, g2, g7, e2]) | (simp (maxSteps := 1000000) (disch := first | omega | assumption) only [BB, e1, g0, g1, g2, g7, e2]) | with_reducible refine Gst.now ?_ | with_reducible refine vawp_draw mixed (by kernel_rfl) ?_ | with_reducible first | refine lwV_out ?_ | refine lwV_out0 ?_ | refine lkC_out ?_ | refine And.intro (by omega) ?_ | fail)
      exact .now hK
end
end Go.Proofs.Ytncicgfbnjneeaa.VTab
