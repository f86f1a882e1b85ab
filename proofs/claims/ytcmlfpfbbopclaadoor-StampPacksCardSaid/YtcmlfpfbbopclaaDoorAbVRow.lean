/- the laws' arguments of chapter 17; the program's variables. -/
import Derived.Test.YtcmlfpfbbopclaaDoorProg
import Derived.Test.YtcmlfpfbbopclaaDoorAbV12
import Derived.Test.YtcmlfpfbbopclaaDoorAbFacts
import Derived.Test.YtcmlfpfbbopclaaDoorAbVG
import Derived.Test.YtcmlfpfbbopclaaDoorAbVStamp
import Derived.KernelRfl
import Derived.Laws.BitsAllLaws
set_option linter.unusedVariables false
set_option linter.unusedSimpArgs false
set_option maxRecDepth 100000
set_option maxHeartbeats 4000000
namespace Go.Proofs.YtcmlfpfbbopclaaDoor.VRow
open Go.RowKit Go.Proofs.AbM Go.Proofs.YtcmlfpfbbopclaaDoor.Facts Go.Proofs.YtcmlfpfbbopclaaDoor.VG Go.Proofs.YtcmlfpfbbopclaaDoor.VStamp
attribute [local go_sem] vawp_skip_eq vawp_seq_eq vawp_region_eq vawp_cond_g vawp_block_eq vawp_exit_eq vawp_ret_eq thenV_ret thenV_exit thenV_normal inBlockV_normal inBlockV_ret inBlockV_exit resKV_nil resKV_tmp resKV_cell oneV_one oneV_nil oneV_more initV_nil initV_cons updV_at evv_tmp evv_func evv_global evv_int evv_bool evv_str evv_snil evv_pnil evv_agg ofV3_int ofV3_bool ofV3_str ofV3_snil ofV3_pnil vok_tmp vok_func vok_global vok_int vok_bool vok_str vok_snil vok_pnil vok_agg cloV3_int cloV3_bool cloV3_str cloV3_snil cloV3_pnil voks_nil voks_cons scV_int scV_bool scV_str isBlV_b isBV_t isBV_f lwV_none lwV_sc lwV_agg lwV_tup lwV_isl lwV_own lwV_op lwV_ip lwV_fn lwV_junk vops_nil vops_n vops_s gsN_eq vop dstOk_some dstOk_none pkV_b blkV_set eRead_f eRead_t vLoad_op vLoad_ip vStore_op cells_sc cells_isl cells_own cells_op cells_ip cells_fn cells_agg parts_sc parts_isl parts_own parts_op parts_ip parts_fn parts_agg one_sc one_isl one_own one_op one_ip one_fn vField_op vField_ip ePart_f ePart_t vFieldV_agg vIx_isl vIx_own vIx_op vIx_ip vIxV_agg vIxV_str vLen_str vLen_isl vLen_own vLen_agg bndE_none bndE_int vSlice_isl vSlice_str vBin_add vBin_sub vBin_mul vBin_quo vBin_rem vBin_and vBin_or vBin_xor vBin_andNot vBin_eql vBin_neq vBin_lss vBin_leq vBin_gtr vBin_geq vBin_shr_i8 vBin_shl_i8 vBin_shr_i16 vBin_shl_i16 vBin_shr_i32 vBin_shl_i32 vBin_shr_i64 vBin_shl_i64 vBin_shr_u8 vBin_shl_u8 vBin_shr_u16 vBin_shl_u16 vBin_shr_u32 vBin_shl_u32 vBin_shr_u64 vBin_shl_u64 vBin_seq vBin_sne vBin_isln vBin_opn vBin_ipn ex_sc ex_sc2 ex_sc3 ex_tup calleeV wSc_pb wSc_pi wSc_not wSc_neg wSc_com wSc_min2 wSc_max2 vfold_nil vfold_one vfold_cons vfill_nil vfill_e eFill_s vBuild vBox vAlloc setV_map setV_zs setV_zn setV_s hset_hset eConv_ss vConv_e iv_eq ivI_eq ex_get ex_getI set_iv set_ivI okNil isNilV isSlV hdel_at hset_at List.map_toArray List.map_cons List.map_nil List.nil_append List.cons_append List.append_nil List.toList_toArray List.getElem?_toArray List.getElem_toArray List.getElem_cons_zero List.getElem_cons_succ List.getElem?_cons_zero List.getElem?_cons_succ List.set_cons_zero List.set_cons_succ List.set_set List.length_cons List.length_nil List.length_set List.length_map List.all_cons List.all_nil List.drop_zero List.drop_succ_cons List.take_succ_cons List.take_zero List.flatMap_cons Bool.and_eq_true true_and and_true if_true if_false ite_true ite_false forall_eq' forall_eq exists_eq_left exists_eq_left' exists_eq' Value.bool.injEq Value.int.injEq Value.string.injEq Value.pointer.injEq Option.some.injEq AV.sc.injEq AV.op.injEq AV.ip.injEq AV.own.injEq AV.agg.injEq VB.cells.injEq VB.iter.injEq Prod.mk.injEq decide_eq_true_eq decide_eq_false_iff_not Nat.reduceEqDiff Nat.reduceLT Nat.reduceLeDiff Nat.reduceSub Nat.reduceBEq reduceIte Int.reduceLE Int.reduceLT Int.reduceToNat Int.reduceNeg Int.reduceEq Int.reduceNe Int.cast_ofNat_Int Nat.reduceMul Nat.reduceAdd Nat.reduceDiv Nat.reduceMod Nat.reducePow Int.reduceSub Int.reduceAdd Int.reduceMul Int.reducePow Option.isSome_some Option.isSome_none Option.bind_some Option.map_some Option.map_none Option.toList_some Option.toList_none true_or or_true or_false false_or Bool.not_true Bool.not_false Bool.not_eq_true Bool.false_eq_true Bool.not_not false_implies true_implies implies_true Nat.zero_add Nat.add_zero Nat.mul_one Bool.not_eq_true' Bool.true_eq_false Bool.and_true Bool.true_and Bool.and_false Bool.false_and Bool.or_true Bool.true_or Bool.or_false Bool.false_or Option.isNone_some Option.isNone_none Int.reduceBEq Int.reduceBNe beq_self_eq_true bne_self_eq_false beq_iff_eq not_false_eq_true not_true_eq_false Decidable.not_not bne_iff_ne ne_eq Int.toNat_natCast gt_lt ge_le c_add c_mul c_sub c_addn c_nadd c_muln c_nmul c_subn c_nsub c_divn c_modn c_div c_mod c_tdivn c_tmodn c_tdiv c_tmod c_pow c_nn c_beq c_beqn c_bne c_bnen wr64 wr32 wru64 wru32 wru16 wru8 c_if c_if1 c_if2 c_lt c_le c_eq c_ltn c_len c_nlt c_nle c_eqn m_drop m_take Nat.add_sub_cancel_left Nat.add_sub_cancel Int.reduceTMod Int.reduceTDiv Int.reduceMod Int.reduceDiv isC_some hset_ne hdel_ne hdel_hset hdel_hset_ne blkV_nset blkV_ndel hset_hdel gV_t gV_f isGdV_b isGdV_u isBV_u isGdV_g isBV_gt isBV_gf decide_true decide_false Bool.or_eq_false_iff eq_self Nat.lt_irrefl Int.lt_irrefl Nat.le_refl Int.le_refl
attribute [local go_sem high] vops_pk vops_mv vops_as vops_smv pk_and pk_or pk_gand pk_gor pk_orn pk_gorn
attribute [local go_sem] ag3 sz3 zc3 ik3 ag4 sz4 zc4 ag23 sz23 zc23 eqs23 nes23 bo23 ag24 sz24 zc24 ik24 ag27 sz27 zc27 ik27 ag44 sz44 ea44 an44 zc44 bo44 ag46 sz46 el46 zc46 is46 of23_0 fd23_0 of23_1 fd23_1 of23_2 fd23_2 of23_3 fd23_3 of23_4 fd23_4 of23_5 fd23_5 eqb neb
section
variable {W0 : World}
theorem stamp_rv {cs : List Value} {x : Int × Int × Int × Int × Int × Int × Unit} (hE : (ECons (EInt .i64) (ECons (EInt .i64) (ECons (EInt .i64) (ECons (EInt .i64) (ECons (EInt .i64) (ECons (EInt .i64) ENil)))))) x cs) : ∃ t : StV, OkS t ∧ RV W0 C0 (.agg (sC t)) (.agg cs.toArray) := by
  obtain ⟨u0, w0, rfl, ⟨rfl, k0⟩, u1, w1, rfl, ⟨rfl, k1⟩, u2, w2, rfl, ⟨rfl, k2⟩, u3, w3, rfl, ⟨rfl, k3⟩, u4, w4, rfl, ⟨rfl, k4⟩, u5, w5, rfl, ⟨rfl, k5⟩, rfl⟩ := hE
  have v0 := wf_i64 k0
  have v1 := wf_i64 k1
  have v2 := wf_i64 k2
  have v3 := wf_i64 k3
  have v4 := wf_i64 k4
  have v5 := wf_i64 k5
  refine ⟨⟨x.1, x.2.1, x.2.2.1, x.2.2.2.1, x.2.2.2.2.1, x.2.2.2.2.2.1⟩, ⟨by unfold In64; simp only; omega, by unfold In64; simp only; omega, by unfold In64; simp only; omega, by unfold In64; simp only; omega, by unfold In64; simp only; omega, by unfold In64; simp only; omega⟩, ?_⟩
  unfold sC
  exact RVs.aggr (RVs.cons (.sc rfl) (RVs.cons (.sc rfl) (RVs.cons (.sc rfl) (RVs.cons (.sc rfl) (RVs.cons (.sc rfl) (RVs.cons (.sc rfl) (RVs.nil)))))))
theorem u16_rv {x : Int} (h : (Lit.int .u16 x).wf = true) : ∃ d : Nat, d < 65536 ∧ x = d := by
  have := wf_u16 h
  exact ⟨x.toNat, by omega, by omega⟩
theorem gok {laid : List (String × DataW Unit)} (hL : laidMetH Tryd.prog laid W0) (hl : laid = [("footlocker/stamp.days", .agg (days.map fun x => .lit (.int .i64 x)))]) : GOk W0 GL := by
  intro g hg
  by_cases h0 : g = 0
  · subst h0
    subst hl
    exact laid_rv hL (by kernel_rfl) (n := "footlocker/stamp.days") (xs := days) (k := .i64) (t := 44) (e := 3) (m := 13) (List.Mem.head _) (by kernel_rfl) (by kernel_rfl) (by kernel_rfl) (by kernel_rfl) (by kernel_rfl)
  · unfold GL at hg
    rw [if_neg h0] at hg
    cases hg
end
end Go.Proofs.YtcmlfpfbbopclaaDoor.VRow
