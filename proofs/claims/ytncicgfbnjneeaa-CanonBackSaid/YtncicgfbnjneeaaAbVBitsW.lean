/- package bits over the machine of values: the parts of the writer that chapter 10 reaches. -/
import Derived.Test.YtncicgfbnjneeaaProg
import Derived.Test.YtncicgfbnjneeaaAbV16
import Derived.Test.YtncicgfbnjneeaaAbFacts
import Derived.Test.YtncicgfbnjneeaaAbBitsM
import Derived.Test.YtncicgfbnjneeaaAbVBits
import Derived.Test.YtncicgfbnjneeaaAbVBitsT
import Derived.KernelRfl
import Derived.Laws.BitsAllLaws
set_option linter.unusedVariables false
set_option linter.unusedSimpArgs false
set_option maxRecDepth 100000
set_option maxHeartbeats 4000000
namespace Go.Proofs.Ytncicgfbnjneeaa.VBitsW
open Go.RowKit Go.Proofs.AbM Go.Proofs.Ytncicgfbnjneeaa.Facts Go.Proofs.Ytncicgfbnjneeaa.BitsM Go.Proofs.Ytncicgfbnjneeaa.VBits Go.Proofs.Ytncicgfbnjneeaa.VBitsT
attribute [local go_sem] vawp_skip_eq vawp_seq_eq vawp_region_eq vawp_cond_g vawp_block_eq vawp_exit_eq vawp_ret_eq thenV_ret thenV_exit thenV_normal inBlockV_normal inBlockV_ret inBlockV_exit resKV_nil resKV_tmp resKV_cell oneV_one oneV_nil oneV_more initV_nil initV_cons updV_at evv_tmp evv_func evv_global evv_int evv_bool evv_str evv_snil evv_pnil evv_agg ofV3_int ofV3_bool ofV3_str ofV3_snil ofV3_pnil vok_tmp vok_func vok_global vok_int vok_bool vok_str vok_snil vok_pnil vok_agg cloV3_int cloV3_bool cloV3_str cloV3_snil cloV3_pnil voks_nil voks_cons scV_int scV_bool scV_str isBlV_b isBV_t isBV_f lwV_none lwV_sc lwV_agg lwV_tup lwV_isl lwV_own lwV_op lwV_ip lwV_fn lwV_junk vops_nil vops_n vops_s gsN_eq vop dstOk_some dstOk_none pkV_b blkV_set eRead_f eRead_t vLoad_op vLoad_ip vStore_op cells_sc cells_isl cells_own cells_op cells_ip cells_fn cells_agg parts_sc parts_isl parts_own parts_op parts_ip parts_fn parts_agg one_sc one_isl one_own one_op one_ip one_fn vField_op vField_ip ePart_f ePart_t vFieldV_agg vIx_isl vIx_own vIx_op vIx_ip vIxV_agg vIxV_str vLen_str vLen_isl vLen_own vLen_agg bndE_none bndE_int vSlice_isl vSlice_str vBin_add vBin_sub vBin_mul vBin_quo vBin_rem vBin_and vBin_or vBin_xor vBin_andNot vBin_eql vBin_neq vBin_lss vBin_leq vBin_gtr vBin_geq vBin_shr_i8 vBin_shl_i8 vBin_shr_i16 vBin_shl_i16 vBin_shr_i32 vBin_shl_i32 vBin_shr_i64 vBin_shl_i64 vBin_shr_u8 vBin_shl_u8 vBin_shr_u16 vBin_shl_u16 vBin_shr_u32 vBin_shl_u32 vBin_shr_u64 vBin_shl_u64 vBin_seq vBin_sne vBin_isln vBin_opn vBin_ipn ex_sc ex_sc2 ex_sc3 ex_tup calleeV wSc_pb wSc_pi wSc_not wSc_neg wSc_com wSc_min2 wSc_max2 vfold_nil vfold_one vfold_cons vfill_nil vfill_e eFill_s vBuild vBox vAlloc setV_map setV_zs setV_zn setV_s hset_hset eConv_ss vConv_e iv_eq ivI_eq ex_get ex_getI set_iv set_ivI okNil isNilV isSlV hdel_at hset_at List.map_toArray List.map_cons List.map_nil List.nil_append List.cons_append List.append_nil List.toList_toArray List.getElem?_toArray List.getElem_toArray List.getElem_cons_zero List.getElem_cons_succ List.getElem?_cons_zero List.getElem?_cons_succ List.set_cons_zero List.set_cons_succ List.set_set List.length_cons List.length_nil List.length_set List.length_map List.all_cons List.all_nil List.drop_zero List.drop_succ_cons List.take_succ_cons List.take_zero List.flatMap_cons Bool.and_eq_true true_and and_true if_true if_false ite_true ite_false forall_eq' forall_eq exists_eq_left exists_eq_left' exists_eq' Value.bool.injEq Value.int.injEq Value.string.injEq Value.pointer.injEq Option.some.injEq AV.sc.injEq AV.op.injEq AV.ip.injEq AV.own.injEq AV.agg.injEq VB.cells.injEq VB.iter.injEq Prod.mk.injEq decide_eq_true_eq decide_eq_false_iff_not Nat.reduceEqDiff Nat.reduceLT Nat.reduceLeDiff Nat.reduceSub Nat.reduceBEq reduceIte Int.reduceLE Int.reduceLT Int.reduceToNat Int.reduceNeg Int.reduceEq Int.reduceNe Int.cast_ofNat_Int Nat.reduceMul Nat.reduceAdd Nat.reduceDiv Nat.reduceMod Nat.reducePow Int.reduceSub Int.reduceAdd Int.reduceMul Int.reducePow Option.isSome_some Option.isSome_none Option.bind_some Option.map_some Option.map_none Option.toList_some Option.toList_none true_or or_true or_false false_or Bool.not_true Bool.not_false Bool.not_eq_true Bool.false_eq_true Bool.not_not false_implies true_implies implies_true Nat.zero_add Nat.add_zero Nat.mul_one Bool.not_eq_true' Bool.true_eq_false Bool.and_true Bool.true_and Bool.and_false Bool.false_and Bool.or_true Bool.true_or Bool.or_false Bool.false_or Option.isNone_some Option.isNone_none Int.reduceBEq Int.reduceBNe beq_self_eq_true bne_self_eq_false beq_iff_eq not_false_eq_true not_true_eq_false Decidable.not_not bne_iff_ne ne_eq Int.toNat_natCast gt_lt ge_le c_add c_mul c_sub c_addn c_nadd c_muln c_nmul c_subn c_nsub c_divn c_modn c_div c_mod c_tdivn c_tmodn c_tdiv c_tmod c_pow c_nn c_beq c_beqn c_bne c_bnen wr64 wr32 wru64 wru32 wru16 wru8 c_if c_if1 c_if2 c_lt c_le c_eq c_ltn c_len c_nlt c_nle c_eqn m_drop m_take Nat.add_sub_cancel_left Nat.add_sub_cancel Int.reduceTMod Int.reduceTDiv Int.reduceMod Int.reduceDiv isC_some hset_ne hdel_ne hdel_hset hdel_hset_ne blkV_nset blkV_ndel hset_hdel gV_t gV_f isGdV_b isGdV_u isBV_u isGdV_g isBV_gt isBV_gf decide_true decide_false Bool.or_eq_false_iff eq_self Nat.lt_irrefl Int.lt_irrefl Nat.le_refl Int.le_refl
attribute [local go_sem high] vops_pk vops_mv vops_as vops_smv pk_and pk_or pk_gand pk_gor pk_orn pk_gorn
attribute [local go_sem] ag3 sz3 zc3 ik3 ag4 sz4 zc4 ag5 sz5 zc5 ik5 ag22 sz22 el22 zc22 is22 ag24 sz24 el24 zc24 is24 ag25 sz25 zc25 ik25 ag30 sz30 zc30 ik30 ag31 sz31 zc31 pt31 ag38 sz38 el38 zc38 is38 ag39 sz39 zc39 pt39 ag49 sz49 zc49 bo49 ag54 sz54 ea54 an54 zc54 bo54 ag58 sz58 ea58 an58 zc58 bo58 ag60 sz60 zc60 bo60 ag62 sz62 zc62 bo62 ag68 sz68 zc68 pt68 ag72 sz72 zc72 ag73 sz73 ea73 an73 zc73 bo73 of49_0 fd49_0 of49_1 fd49_1 of60_0 fd60_0 of60_1 fd60_1 of60_2 fd60_2 of60_3 fd60_3 of60_4 fd60_4 of62_0 fd62_0 of62_1 fd62_1 eqb neb
section
variable {n : Nat} {h h0 : VH} {K : AV → VH → Prop}
/-- A heap with a writer, block j, above h0. -/
def WrH (h0 : VH) (j : Nat) (X : List Nat) (h : VH) : Prop := h0 j = none ∧
  ((X = [] ∧ h = hset h0 j (.cells 49 false [.isl true 0 [], (.sc (.int .i64 ((X.length : Nat))))])) ∨
   ∃ jb nl, jb ≠ j ∧ h0 jb = none ∧ (nl = true → packB X = []) ∧ h = hset (hset h0 jb (.cells 5 nl ((packB X).map (iv .u8)))) j (.cells 49 false [.own jb 0 (packB X).length, (.sc (.int .i64 ((X.length : Nat))))]))
theorem WrH.frame {j r : Nat} {X : List Nat} {b : VB} (hw : WrH h0 j X h) (hr : h r = none) : WrH (hset h0 r b) j X (hset h r b) ∧ j ≠ r := by
  obtain ⟨h1, ⟨rfl, rfl⟩ | ⟨jb, nl, h2, h3, h4, rfl⟩⟩ := hw
  · rw [hset_none] at hr
    exact ⟨⟨by rw [hset_ne _ _ (Ne.symm hr.1)]; exact h1, .inl ⟨rfl, hset_comm hr.1⟩⟩, Ne.symm hr.1⟩
  · rw [hset_none, hset_none] at hr
    refine ⟨⟨by rw [hset_ne _ _ (Ne.symm hr.1)]; exact h1, .inr ⟨jb, nl, h2, by rw [hset_ne _ _ (Ne.symm hr.2.1)]; exact h3, h4, ?_⟩⟩, Ne.symm hr.1⟩
    rw [hset_comm hr.1, hset_comm hr.2.1]
theorem WrH.none {j r : Nat} {X : List Nat} (hw : WrH h0 j X h) (hr : h r = none) : h0 r = none := by
  obtain ⟨h1, ⟨rfl, rfl⟩ | ⟨jb, nl, h2, h3, h4, rfl⟩⟩ := hw
  · rw [hset_none] at hr; exact hr.2
  · rw [hset_none, hset_none] at hr; exact hr.2.2
/-- What stands below a writer. -/
theorem WrH.below {j r : Nat} {X : List Nat} {b : VB} (hw : WrH h0 j X h) (hr : h0 r = some b) : h r = some b := by
  obtain ⟨h1, ⟨rfl, rfl⟩ | ⟨jb, nl, h2, h3, h4, rfl⟩⟩ := hw
  · rw [hset_ne]
    · exact hr
    · rintro rfl; rw [h1] at hr; cases hr
  · rw [hset_ne, hset_ne]
    · exact hr
    · rintro rfl; rw [h3] at hr; cases hr
    · rintro rfl; rw [h1] at hr; cases hr
/-- .. is changed. -/
theorem WrH.put {j r : Nat} {X : List Nat} {b c : VB} (hw : WrH h0 j X h) (hr : h0 r = some b) : WrH (hset h0 r c) j X (hset h r c) := by
  obtain ⟨h1, ⟨rfl, rfl⟩ | ⟨jb, nl, h2, h3, h4, rfl⟩⟩ := hw
  · have hn : r ≠ j := by rintro rfl; rw [h1] at hr; cases hr
    exact ⟨by rw [hset_ne _ _ hn.symm]; exact h1, .inl ⟨rfl, hset_comm hn⟩⟩
  · have hn : r ≠ j := by rintro rfl; rw [h1] at hr; cases hr
    have hm : r ≠ jb := by rintro rfl; rw [h3] at hr; cases hr
    refine ⟨by rw [hset_ne _ _ hn.symm]; exact h1, .inr ⟨jb, nl, h2, by rw [hset_ne _ _ hm.symm]; exact h3, h4, ?_⟩⟩
    rw [hset_comm hn, hset_comm hm]
theorem WrH.del {j r : Nat} {X : List Nat} {b : VB} (hw : WrH h0 j X h) (hr : h0 r = some b) : WrH (hdel h0 r) j X (hdel h r) := by
  obtain ⟨h1, ⟨rfl, rfl⟩ | ⟨jb, nl, h2, h3, h4, rfl⟩⟩ := hw
  · have hn : r ≠ j := by rintro rfl; rw [h1] at hr; cases hr
    exact ⟨by rw [hdel_ne _ hn.symm]; exact h1, .inl ⟨rfl, hdel_hset_ne hn⟩⟩
  · have hn : r ≠ j := by rintro rfl; rw [h1] at hr; cases hr
    have hm : r ≠ jb := by rintro rfl; rw [h3] at hr; cases hr
    refine ⟨by rw [hdel_ne _ hn.symm]; exact h1, .inr ⟨jb, nl, h2, by rw [hdel_ne _ hm.symm]; exact h3, h4, ?_⟩⟩
    rw [hdel_hset_ne hn, hdel_hset_ne hm]
theorem len_v {j : Nat} {X : List Nat} (hw : WrH h0 j X h) (hK : K (.sc (.int .i64 ((X.length : Nat)))) h) : VC Try.prog GL (n + 1) 20 [.op j 0] h K := by
  refine VC_go Try.func20 rfl (by decide) Try.ntmps20 Try.results20 rfl fun Q hq hn => ?_
  obtain ⟨h1, ⟨rfl, rfl⟩ | ⟨jb, nl, h2, h3, h4, rfl⟩⟩ := hw
  · repeat (first | (simp (maxSteps := 1000000) only [↓reduceIte, go_sem]) | (simp (maxSteps := 1000000) (disch := first | omega | assumption) only [BB]) | with_reducible refine Gst.now ?_ | with_reducible refine vawp_draw mixed (by kernel_rfl) ?_ | with_reducible first | refine lwV_out ?_ | refine lwV_out0 ?_ | refine lkC_out ?_ | refine And.intro (by omega) ?_ | fail)
    refine hq _ _ ?_
    repeat (first | (simp (maxSteps := 1000000) only [↓reduceIte, go_sem]) | (simp (maxSteps := 1000000) (disch := first | omega | assumption) only [BB]) | with_reducible refine Gst.now ?_ | with_reducible refine vawp_draw mixed (by kernel_rfl) ?_ | with_reducible first | refine lwV_out ?_ | refine lwV_out0 ?_ | refine lkC_out ?_ | refine And.intro (by omega) ?_ | fail)
    exact .now hK
  · repeat (first | (simp (maxSteps := 1000000) only [↓reduceIte, go_sem]) | (simp (maxSteps := 1000000) (disch := first | omega | assumption) only [BB]) | with_reducible refine Gst.now ?_ | with_reducible refine vawp_draw mixed (by kernel_rfl) ?_ | with_reducible first | refine lwV_out ?_ | refine lwV_out0 ?_ | refine lkC_out ?_ | refine And.intro (by omega) ?_ | fail)
    refine hq _ _ ?_
    repeat (first | (simp (maxSteps := 1000000) only [↓reduceIte, go_sem]) | (simp (maxSteps := 1000000) (disch := first | omega | assumption) only [BB]) | with_reducible refine Gst.now ?_ | with_reducible refine vawp_draw mixed (by kernel_rfl) ?_ | with_reducible first | refine lwV_out ?_ | refine lwV_out0 ?_ | refine lkC_out ?_ | refine And.intro (by omega) ?_ | fail)
    exact .now hK
theorem bit_v {j v : Nat} {X : List Nat} (hw : WrH h0 j X h) (hX : IsBits X) (hl : X.length < 4294967296) (hv : v < 4294967296) (hK : ∀ h', WrH h0 j (X ++ [v % 2]) h' → K (.tup []) h') : VC Try.prog GL (n + 1) 30 [.op j 0, (.sc (.int .u32 (v)))] h K := by
  refine VC_go Try.func30 rfl (by decide) Try.ntmps30 Try.results30 rfl fun Q hq hn => ?_
  refine vawp_mid (fun ρ hh => ρ 0 = .op j 0 ∧ ρ 1 = (.sc (.int .u32 (v))) ∧ ∃ jb, jb ≠ j ∧ h0 j = none ∧ h0 jb = none ∧ hh = hset (hset h0 jb (.cells 5 false ((if X.length % 8 = 0 then packB X ++ [0] else packB X).map (iv .u8)))) j (.cells 49 false [.own jb 0 ((X.length + 8) / 8), (.sc (.int .i64 ((X.length : Nat))))])) (fun K hk => ?_) fun ρ hh ⟨g0, g1, jb, h2, h1, h3, hh'⟩ => ?_
  · obtain ⟨h1, ⟨rfl, rfl⟩ | ⟨jb, nl, h2, h3, h4, rfl⟩⟩ := hw
    · repeat (first | (simp (maxSteps := 1000000) only [↓reduceIte, go_sem]) | (simp (maxSteps := 1000000) (disch := first | omega | assumption) only [BB]) | with_reducible refine Gst.now ?_ | with_reducible refine vawp_draw mixed (by kernel_rfl) ?_ | with_reducible first | refine lwV_out ?_ | refine lwV_out0 ?_ | refine lkC_out ?_ | refine And.intro (by omega) ?_ | fail)
      refine vBuildS_i bs38 ?_ ?_ ?_ ?_ ?_
      rfl
      rfl
      rfl
      rfl
      repeat (first | (simp (maxSteps := 1000000) only [↓reduceIte, go_sem]) | (simp (maxSteps := 1000000) (disch := first | omega | assumption) only [BB]) | with_reducible refine Gst.now ?_ | with_reducible refine vawp_draw mixed (by kernel_rfl) ?_ | with_reducible first | refine lwV_out ?_ | refine lwV_out0 ?_ | refine lkC_out ?_ | refine And.intro (by omega) ?_ | fail)
      apply vApp_nil_isl ap38 (by simp only [go_sem])
      case hv => first | (simp []; done) | (simp []; omega) | rfl | assumption
      case h1 => first | omega | (simp []; omega) | (simp []; done)
      case h2 => first | omega | (simp []; omega) | (simp []; done)
      try (case hK0 => first | (intro hh; omega) | (intro hh; exact absurd hh (by decide)))
      intro _ jb hjb
      try simp (disch := first | omega | assumption) only [go_sem, hset_none, hdel_none] at hjb
      try simp (disch := first | omega | assumption) only [hset_none, hdel_none] at hjb
      repeat (first | (simp (maxSteps := 1000000) only [↓reduceIte, go_sem]) | (simp (maxSteps := 1000000) (disch := first | omega | assumption) only [BB]) | with_reducible refine Gst.now ?_ | with_reducible refine vawp_draw mixed (by kernel_rfl) ?_ | with_reducible first | refine lwV_out ?_ | refine lwV_out0 ?_ | refine lkC_out ?_ | refine And.intro (by omega) ?_ | fail)
      refine hk _ _ ?_
      repeat (first | (simp (maxSteps := 1000000) only [↓reduceIte, go_sem]) | (simp (maxSteps := 1000000) (disch := first | omega | assumption) only [BB]) | with_reducible refine Gst.now ?_ | with_reducible refine vawp_draw mixed (by kernel_rfl) ?_ | with_reducible first | refine lwV_out ?_ | refine lwV_out0 ?_ | refine lkC_out ?_ | refine And.intro (by omega) ?_ | fail)
      refine ⟨jb, hjb.1, h1, hjb.2, ?_⟩
      rw [hset_comm hjb.1, hset_hset]
      rfl
    · repeat (first | (simp (maxSteps := 1000000) only [↓reduceIte, go_sem]) | (simp (maxSteps := 1000000) (disch := first | omega | assumption) only [BB]) | with_reducible refine Gst.now ?_ | with_reducible refine vawp_draw mixed (by kernel_rfl) ?_ | with_reducible first | refine lwV_out ?_ | refine lwV_out0 ?_ | refine lkC_out ?_ | refine And.intro (by omega) ?_ | fail)
      split
      · rename_i h8
        repeat (first | (simp (maxSteps := 1000000) only [↓reduceIte, go_sem]) | (simp (maxSteps := 1000000) (disch := first | omega | assumption) only [BB]) | with_reducible refine Gst.now ?_ | with_reducible refine vawp_draw mixed (by kernel_rfl) ?_ | with_reducible first | refine lwV_out ?_ | refine lwV_out0 ?_ | refine lkC_out ?_ | refine And.intro (by omega) ?_ | fail)
        refine vBuildS_i bs38 ?_ ?_ ?_ ?_ ?_
        rfl
        rfl
        rfl
        rfl
        repeat (first | (simp (maxSteps := 1000000) only [↓reduceIte, go_sem]) | (simp (maxSteps := 1000000) (disch := first | omega | assumption) only [BB]) | with_reducible refine Gst.now ?_ | with_reducible refine vawp_draw mixed (by kernel_rfl) ?_ | with_reducible first | refine lwV_out ?_ | refine lwV_out0 ?_ | refine lkC_out ?_ | refine And.intro (by omega) ?_ | fail)
        apply vApp_own_isl ap38 (by simp only [go_sem])
        case hv => first | (simp [packB_len]; done) | (simp [packB_len]; omega) | rfl | assumption
        case hj => repeat (first | exact hset_at _ _ _ | assumption | refine (hset_ne _ _ (by first | omega | assumption)).trans ?_ | refine (hdel_ne _ (by first | omega | assumption)).trans ?_ | fail)
        case hl => first | (simp [packB_len]; done) | (simp [packB_len]; omega) | rfl | assumption
        case h1 => first | omega | (simp [packB_len]; omega) | (simp [packB_len]; done)
        case h2 => first | omega | (simp [packB_len]; omega) | (simp [packB_len]; done)
        intro jb' hjb
        try simp (disch := first | omega | assumption) only [go_sem, hset_none, hdel_none] at hjb
        try simp (disch := first | omega | assumption) only [hset_none, hdel_none] at hjb
        repeat (first | (simp (maxSteps := 1000000) only [↓reduceIte, go_sem]) | (simp (maxSteps := 1000000) (disch := first | omega | assumption) only [BB]) | with_reducible refine Gst.now ?_ | with_reducible refine vawp_draw mixed (by kernel_rfl) ?_ | with_reducible first | refine lwV_out ?_ | refine lwV_out0 ?_ | refine lkC_out ?_ | refine And.intro (by omega) ?_ | fail)
        refine hk _ _ ?_
        repeat (first | (simp (maxSteps := 1000000) only [↓reduceIte, go_sem]) | (simp (maxSteps := 1000000) (disch := first | omega | assumption) only [BB]) | with_reducible refine Gst.now ?_ | with_reducible refine vawp_draw mixed (by kernel_rfl) ?_ | with_reducible first | refine lwV_out ?_ | refine lwV_out0 ?_ | refine lkC_out ?_ | refine And.intro (by omega) ?_ | fail)
        refine ⟨jb', hjb.1, h1, hjb.2, ?_⟩
        rw [if_pos h8, List.map_append, hset_comm hjb.1]
        have : (packB X).length + 1 = (X.length + 8) / 8 := by rw [packB_len]; omega
        rw [this, hset_hset]; rfl
      · rename_i h8
        repeat (first | (simp (maxSteps := 1000000) only [↓reduceIte, go_sem]) | (simp (maxSteps := 1000000) (disch := first | omega | assumption) only [BB]) | with_reducible refine Gst.now ?_ | with_reducible refine vawp_draw mixed (by kernel_rfl) ?_ | with_reducible first | refine lwV_out ?_ | refine lwV_out0 ?_ | refine lkC_out ?_ | refine And.intro (by omega) ?_ | fail)
        refine hk _ _ ?_
        repeat (first | (simp (maxSteps := 1000000) only [↓reduceIte, go_sem]) | (simp (maxSteps := 1000000) (disch := first | omega | assumption) only [BB]) | with_reducible refine Gst.now ?_ | with_reducible refine vawp_draw mixed (by kernel_rfl) ?_ | with_reducible first | refine lwV_out ?_ | refine lwV_out0 ?_ | refine lkC_out ?_ | refine And.intro (by omega) ?_ | fail)
        refine ⟨jb, h2, h1, h3, ?_⟩
        have hl : (packB X).length = (X.length + 8) / 8 := by rw [packB_len]; omega
        have : nl = false := by
          cases nl with
          | false => rfl
          | true => have := h4 rfl; rw [this] at hl; simp at hl
        rw [if_neg h8, hl, this]
  · subst hh'
    have hlen : (if X.length % 8 = 0 then packB X ++ [0] else packB X).length = (X.length + 8) / 8 := by split <;> simp [packB_len] <;> omega
    have hget : (if X.length % 8 = 0 then packB X ++ [0] else packB X).getD (X.length / 8) 0 = byteB X (X.length / 8) := by
      rw [List.getD_eq_getElem?_getD]
      split
      · rename_i h0
        have hl0 : (packB X).length = X.length / 8 := by rw [packB_len]; omega
        rw [List.getElem?_append_right (by omega), hl0, Nat.sub_self]
        have := byteB_low hX
        rw [h0] at this
        have : byteB X (X.length / 8) = 0 := by omega
        rw [this]; rfl
      · rw [packB_get (by omega)]; rfl
    have e4 : bits .and .u32 (v : Int) 1 = ((v % 2 : Nat) : Int) := by
      rw [show (1 : Int) = ((1 : Nat) : Int) from rfl, Go.u32_and_nat v 1 hv (by omega), Nat.and_one_is_mod]
    have e5 := or_bit (r := X.length % 8) (v := v % 2) (byteB_low hX) (by omega) (by omega)
    simp only [c_pow, c_mul] at e5
    have hsn := packB_snoc X (v % 2)
    generalize (if X.length % 8 = 0 then packB X ++ [0] else packB X) = bs at *
    repeat (first | (simp (maxSteps := 1000000) only [↓reduceIte, go_sem, g0, g1, e4, e5, hget, hlen]) | (simp (maxSteps := 1000000) (disch := first | omega | assumption) only [BB, g0, g1, e4, e5, hget, hlen]) | with_reducible refine Gst.now ?_ | with_reducible refine vawp_draw mixed (by kernel_rfl) ?_ | with_reducible first | refine lwV_out ?_ | refine lwV_out0 ?_ | refine lkC_out ?_ | refine And.intro (by omega) ?_ | fail)
    refine hn _ _ ?_
    repeat (first | (simp (maxSteps := 1000000) only [↓reduceIte, go_sem]) | (simp (maxSteps := 1000000) (disch := first | omega | assumption) only [BB]) | with_reducible refine Gst.now ?_ | with_reducible refine vawp_draw mixed (by kernel_rfl) ?_ | with_reducible first | refine lwV_out ?_ | refine lwV_out0 ?_ | refine lkC_out ?_ | refine And.intro (by omega) ?_ | fail)
    refine .now (hK _ ⟨h1, .inr ⟨jb, false, h2, h3, fun e => (by cases e), ?_⟩⟩)
    rw [packB_len, List.length_append, hsn]
    have e9 : (X.length + [v % 2].length + 7) / 8 = (X.length + 8) / 8 := by rw [List.length_singleton]
    rw [e9, hset_comm h2.symm, hset_hset, hset_comm h2, hset_hset]
    rfl
theorem clone_v {nl : Bool} {l : Nat} {xs : List Nat} (hl : l = xs.length) (hnl : nl = true → xs = []) (hb : xs.length ≤ 140737488355328) (hK : K (.isl nl l (xs.map (iv .u8))) h) : VC Try.prog GL (n + 1) 31 [.isl nl l (xs.map (iv .u8))] h K := by
  refine VC_go Try.func31 rfl (by decide) Try.ntmps31 Try.results31 rfl fun Q hq hn => ?_
  subst hl
  repeat (first | (simp (maxSteps := 1000000) only [↓reduceIte, go_sem]) | (simp (maxSteps := 1000000) (disch := first | omega | assumption) only [BB]) | with_reducible refine Gst.now ?_ | with_reducible refine vawp_draw mixed (by kernel_rfl) ?_ | with_reducible first | refine lwV_out ?_ | refine lwV_out0 ?_ | refine lkC_out ?_ | refine And.intro (by omega) ?_ | fail)
  cases nl with
  | true =>
    have := hnl rfl
    subst this
    repeat (first | (simp (maxSteps := 1000000) only [↓reduceIte, go_sem]) | (simp (maxSteps := 1000000) (disch := first | omega | assumption) only [BB]) | with_reducible refine Gst.now ?_ | with_reducible refine vawp_draw mixed (by kernel_rfl) ?_ | with_reducible first | refine lwV_out ?_ | refine lwV_out0 ?_ | refine lkC_out ?_ | refine And.intro (by omega) ?_ | fail)
    refine hq _ _ ?_
    repeat (first | (simp (maxSteps := 1000000) only [↓reduceIte, go_sem]) | (simp (maxSteps := 1000000) (disch := first | omega | assumption) only [BB]) | with_reducible refine Gst.now ?_ | with_reducible refine vawp_draw mixed (by kernel_rfl) ?_ | with_reducible first | refine lwV_out ?_ | refine lwV_out0 ?_ | refine lkC_out ?_ | refine And.intro (by omega) ?_ | fail)
    exact .now hK
  | false =>
    repeat (first | (simp (maxSteps := 1000000) only [↓reduceIte, go_sem]) | (simp (maxSteps := 1000000) (disch := first | omega | assumption) only [BB]) | with_reducible refine Gst.now ?_ | with_reducible refine vawp_draw mixed (by kernel_rfl) ?_ | with_reducible first | refine lwV_out ?_ | refine lwV_out0 ?_ | refine lkC_out ?_ | refine And.intro (by omega) ?_ | fail)
    refine vBuildS_o bs38 ?_ ?_ ?_ ?_ ?_
    rfl
    rfl
    rfl
    rfl
    intro j hj
    repeat (first | (simp (maxSteps := 1000000) only [↓reduceIte, go_sem]) | (simp (maxSteps := 1000000) (disch := first | omega | assumption) only [BB]) | with_reducible refine Gst.now ?_ | with_reducible refine vawp_draw mixed (by kernel_rfl) ?_ | with_reducible first | refine lwV_out ?_ | refine lwV_out0 ?_ | refine lkC_out ?_ | refine And.intro (by omega) ?_ | fail)
    apply vApp_own_isl ap38 (by simp only [go_sem])
    case hv => first | (simp []; done) | (simp []; omega) | rfl | assumption
    case hj => repeat (first | exact hset_at _ _ _ | assumption | refine (hset_ne _ _ (by first | omega | assumption)).trans ?_ | refine (hdel_ne _ (by first | omega | assumption)).trans ?_ | fail)
    case hl => first | (simp []; done) | (simp []; omega) | rfl | assumption
    case h1 => first | omega | (simp []; omega) | (simp []; done)
    case h2 => first | omega | (simp []; omega) | (simp []; done)
    intro j' hj'
    try simp (disch := first | omega | assumption) only [go_sem, hset_none, hdel_none] at hj'
    try simp (disch := first | omega | assumption) only [hset_none, hdel_none] at hj'
    repeat (first | (simp (maxSteps := 1000000) only [↓reduceIte, go_sem]) | (simp (maxSteps := 1000000) (disch := first | omega | assumption) only [BB]) | with_reducible refine Gst.now ?_ | with_reducible refine vawp_draw mixed (by kernel_rfl) ?_ | with_reducible first | refine lwV_out ?_ | refine lwV_out0 ?_ | refine lkC_out ?_ | refine And.intro (by omega) ?_ | fail)
    refine hq _ _ ?_
    repeat (first | (simp (maxSteps := 1000000) only [↓reduceIte, go_sem]) | (simp (maxSteps := 1000000) (disch := first | omega | assumption) only [BB]) | with_reducible refine Gst.now ?_ | with_reducible refine vawp_draw mixed (by kernel_rfl) ?_ | with_reducible first | refine lwV_out ?_ | refine lwV_out0 ?_ | refine lkC_out ?_ | refine And.intro (by omega) ?_ | fail)
    refine .own1 (hset_at _ _ _) ?_
    repeat (first | (simp (maxSteps := 1000000) only [↓reduceIte, go_sem]) | (simp (maxSteps := 1000000) (disch := first | omega | assumption) only [BB]) | with_reducible refine Gst.now ?_ | with_reducible refine vawp_draw mixed (by kernel_rfl) ?_ | with_reducible first | refine lwV_out ?_ | refine lwV_out0 ?_ | refine lkC_out ?_ | refine And.intro (by omega) ?_ | fail)
    exact hK
theorem clone_own {j : Nat} {e : TypeId} {nl : Bool} {xs : List Nat} (hj : h j = some (.cells e nl (xs.map (iv .u8)))) (hnl : nl = true → xs = []) (hb : xs.length ≤ 140737488355328) (hK : K (.isl nl xs.length (xs.map (iv .u8))) h) : VC Try.prog GL (n + 1) 31 [.own j 0 xs.length] h K := by
  refine VC_go Try.func31 rfl (by decide) Try.ntmps31 Try.results31 rfl fun Q hq hn => ?_
  repeat (first | (simp (maxSteps := 1000000) only [↓reduceIte, go_sem]) | (simp (maxSteps := 1000000) (disch := first | omega | assumption) only [BB]) | with_reducible refine Gst.now ?_ | with_reducible refine vawp_draw mixed (by kernel_rfl) ?_ | with_reducible first | refine lwV_out ?_ | refine lwV_out0 ?_ | refine lkC_out ?_ | refine And.intro (by omega) ?_ | fail)
  refine vBin_own us38 hj ?_
  cases nl with
  | true =>
    have := hnl rfl
    subst this
    repeat (first | (simp (maxSteps := 1000000) only [↓reduceIte, go_sem]) | (simp (maxSteps := 1000000) (disch := first | omega | assumption) only [BB]) | with_reducible refine Gst.now ?_ | with_reducible refine vawp_draw mixed (by kernel_rfl) ?_ | with_reducible first | refine lwV_out ?_ | refine lwV_out0 ?_ | refine lkC_out ?_ | refine And.intro (by omega) ?_ | fail)
    refine hq _ _ ?_
    repeat (first | (simp (maxSteps := 1000000) only [↓reduceIte, go_sem]) | (simp (maxSteps := 1000000) (disch := first | omega | assumption) only [BB]) | with_reducible refine Gst.now ?_ | with_reducible refine vawp_draw mixed (by kernel_rfl) ?_ | with_reducible first | refine lwV_out ?_ | refine lwV_out0 ?_ | refine lkC_out ?_ | refine And.intro (by omega) ?_ | fail)
    exact .now hK
  | false =>
    repeat (first | (simp (maxSteps := 1000000) only [↓reduceIte, go_sem]) | (simp (maxSteps := 1000000) (disch := first | omega | assumption) only [BB]) | with_reducible refine Gst.now ?_ | with_reducible refine vawp_draw mixed (by kernel_rfl) ?_ | with_reducible first | refine lwV_out ?_ | refine lwV_out0 ?_ | refine lkC_out ?_ | refine And.intro (by omega) ?_ | fail)
    refine vBuildS_o bs38 ?_ ?_ ?_ ?_ ?_
    rfl
    rfl
    rfl
    rfl
    intro j1 hj1
    repeat (first | (simp (maxSteps := 1000000) only [↓reduceIte, go_sem]) | (simp (maxSteps := 1000000) (disch := first | omega | assumption) only [BB]) | with_reducible refine Gst.now ?_ | with_reducible refine vawp_draw mixed (by kernel_rfl) ?_ | with_reducible first | refine lwV_out ?_ | refine lwV_out0 ?_ | refine lkC_out ?_ | refine And.intro (by omega) ?_ | fail)
    have hne : j ≠ j1 := by rintro rfl; rw [hj] at hj1; cases hj1
    refine vApp_own ap38 (hset_at _ _ _) rfl ⟨⟨_, us38⟩, rfl, e, false, _, (hset_ne _ _ hne).trans hj, by simp, rfl⟩ (by omega) (by omega) fun j' hj' => ?_
    try simp (disch := first | omega | assumption) only [go_sem, hset_none, hdel_none] at hj'
    try simp (disch := first | omega | assumption) only [hset_none, hdel_none] at hj'
    repeat (first | (simp (maxSteps := 1000000) only [↓reduceIte, go_sem]) | (simp (maxSteps := 1000000) (disch := first | omega | assumption) only [BB]) | with_reducible refine Gst.now ?_ | with_reducible refine vawp_draw mixed (by kernel_rfl) ?_ | with_reducible first | refine lwV_out ?_ | refine lwV_out0 ?_ | refine lkC_out ?_ | refine And.intro (by omega) ?_ | fail)
    refine hq _ _ ?_
    repeat (first | (simp (maxSteps := 1000000) only [↓reduceIte, go_sem]) | (simp (maxSteps := 1000000) (disch := first | omega | assumption) only [BB]) | with_reducible refine Gst.now ?_ | with_reducible refine vawp_draw mixed (by kernel_rfl) ?_ | with_reducible first | refine lwV_out ?_ | refine lwV_out0 ?_ | refine lkC_out ?_ | refine And.intro (by omega) ?_ | fail)
    refine .own1 (hset_at _ _ _) ?_
    repeat (first | (simp (maxSteps := 1000000) only [↓reduceIte, go_sem, hdel_hset hj']) | (simp (maxSteps := 1000000) (disch := first | omega | assumption) only [BB, hdel_hset hj']) | with_reducible refine Gst.now ?_ | with_reducible refine vawp_draw mixed (by kernel_rfl) ?_ | with_reducible first | refine lwV_out ?_ | refine lwV_out0 ?_ | refine lkC_out ?_ | refine And.intro (by omega) ?_ | fail)
    have : ((xs.map (iv .u8)).take xs.length) = xs.map (iv .u8) := List.take_of_length_le (by simp)
    rwa [List.take_length]
theorem code_v {j v : Nat} {X : List Nat} {m : Int} (hw : WrH h0 j X h) (hX : IsBits X) (hl : X.length < 4294967000) (hv : v < 4294967296) (hK : ∀ h', WrH h0 j (X ++ codeTo v (hs32 m) (hs32 m)) h' → K (.tup []) h') : VC Try.prog GL (n + 2) 18 [.op j 0, (.sc (.int .u32 (v))), (.sc (.int .i64 (m)))] h K := by
  refine VC_go Try.func18 rfl (by decide) Try.ntmps18 Try.results18 rfl fun Q hq hn => ?_
  repeat (first | (simp (maxSteps := 1000000) only [↓reduceIte, go_sem]) | (simp (maxSteps := 1000000) (disch := first | omega | assumption) only [BB]) | with_reducible refine Gst.now ?_ | with_reducible refine vawp_draw mixed (by kernel_rfl) ?_ | with_reducible first | refine lwV_out ?_ | refine lwV_out0 ?_ | refine lkC_out ?_ | refine And.intro (by omega) ?_ | fail)
  with_reducible refine call_ok ?_
  refine held_v ?_
  have hm : hs32 m ≤ 32 := by unfold hs32; omega
  generalize hs32 m = N at *
  repeat (first | (simp (maxSteps := 1000000) only [↓reduceIte, go_sem]) | (simp (maxSteps := 1000000) (disch := first | omega | assumption) only [BB]) | with_reducible refine Gst.now ?_ | with_reducible refine vawp_draw mixed (by kernel_rfl) ?_ | with_reducible first | refine lwV_out ?_ | refine lwV_out0 ?_ | refine lkC_out ?_ | refine And.intro (by omega) ?_ | fail)
  refine vawp_loop (k := N) (fun k ρ h1 => ∃ i : Nat, k + i = N ∧ ρ 0 = .op j 0 ∧ ρ 1 = (.sc (.int .u32 (v))) ∧ ρ 6 = (.sc (.int .i64 ((k : Int) - 1))) ∧ WrH h0 j (X ++ codeTo v N i) h1) ?_ ?_
  · refine ⟨0, rfl, ?_⟩
    repeat (first | (simp (maxSteps := 1000000) only [↓reduceIte, go_sem]) | (simp (maxSteps := 1000000) (disch := first | omega | assumption) only [BB]) | with_reducible refine Gst.now ?_ | with_reducible refine vawp_draw mixed (by kernel_rfl) ?_ | with_reducible first | refine lwV_out ?_ | refine lwV_out0 ?_ | refine lkC_out ?_ | refine And.intro (by omega) ?_ | fail)
    simp only [codeTo, List.append_nil]
    exact hw
  · rintro k ρ h1 ⟨i, hki, g0, g1, g6, hW⟩
    repeat (first | (simp (maxSteps := 1000000) only [↓reduceIte, go_sem, g0, g1, g6]) | (simp (maxSteps := 1000000) (disch := first | omega | assumption) only [BB, g0, g1, g6]) | with_reducible refine Gst.now ?_ | with_reducible refine vawp_draw mixed (by kernel_rfl) ?_ | with_reducible first | refine lwV_out ?_ | refine lwV_out0 ?_ | refine lkC_out ?_ | refine And.intro (by omega) ?_ | fail)
    split
    · obtain ⟨k, rfl⟩ : ∃ k', k = k' + 1 := ⟨k - 1, by omega⟩
      have e0 : ((k + 1 : Nat) : Int) - 1 = (k : Int) := by omega
      rw [e0] at g6
      repeat (first | (simp (maxSteps := 1000000) only [↓reduceIte, go_sem, g0, g1, g6]) | (simp (maxSteps := 1000000) (disch := first | omega | assumption) only [BB, g0, g1, g6]) | with_reducible refine Gst.now ?_ | with_reducible refine vawp_draw mixed (by kernel_rfl) ?_ | with_reducible first | refine lwV_out ?_ | refine lwV_out0 ?_ | refine lkC_out ?_ | refine And.intro (by omega) ?_ | fail)
      have hvi : v / 2 ^ k < 4294967296 := Nat.lt_of_le_of_lt (Nat.div_le_self _ _) hv
      with_reducible refine call_ok ?_
      refine bit_v hW (IsBits.append hX (codeTo_bits v N i)) (by rw [List.length_append, codeTo_len]; omega) hvi fun h2 hW2 => ?_
      repeat (first | (simp (maxSteps := 1000000) only [↓reduceIte, go_sem, g0, g1, g6]) | (simp (maxSteps := 1000000) (disch := first | omega | assumption) only [BB, g0, g1, g6]) | with_reducible refine Gst.now ?_ | with_reducible refine vawp_draw mixed (by kernel_rfl) ?_ | with_reducible first | refine lwV_out ?_ | refine lwV_out0 ?_ | refine lkC_out ?_ | refine And.intro (by omega) ?_ | fail)
      refine ⟨k, by omega, i + 1, by omega, ?_⟩
      repeat (first | (simp (maxSteps := 1000000) only [↓reduceIte, go_sem, g0, g1]) | (simp (maxSteps := 1000000) (disch := first | omega | assumption) only [BB, g0, g1]) | with_reducible refine Gst.now ?_ | with_reducible refine vawp_draw mixed (by kernel_rfl) ?_ | with_reducible first | refine lwV_out ?_ | refine lwV_out0 ?_ | refine lkC_out ?_ | refine And.intro (by omega) ?_ | fail)
      rw [codeTo, show N - 1 - i = k by omega, ← List.append_assoc]
      exact hW2
    · have hi : i = N := by omega
      subst hi
      refine hn _ _ ?_
      repeat (first | (simp (maxSteps := 1000000) only [↓reduceIte, go_sem]) | (simp (maxSteps := 1000000) (disch := first | omega | assumption) only [BB]) | with_reducible refine Gst.now ?_ | with_reducible refine vawp_draw mixed (by kernel_rfl) ?_ | with_reducible first | refine lwV_out ?_ | refine lwV_out0 ?_ | refine lkC_out ?_ | refine And.intro (by omega) ?_ | fail)
      exact .now (hK _ hW)
theorem done_v {j : Nat} {X : List Nat} (hw : WrH h0 j X h) (hl : X.length < 4294967000) (hK : ∀ nl, (nl = true → packB X = []) → K (.isl nl (packB X).length ((packB X).map (iv .u8))) h) : VC Try.prog GL (n + 2) 19 [.op j 0] h K := by
  refine VC_go Try.func19 rfl (by decide) Try.ntmps19 Try.results19 rfl fun Q hq hn => ?_
  obtain ⟨h1, ⟨rfl, rfl⟩ | ⟨jb, nl, h2, h3, h4, rfl⟩⟩ := hw
  · repeat (first | (simp (maxSteps := 1000000) only [↓reduceIte, go_sem]) | (simp (maxSteps := 1000000) (disch := first | omega | assumption) only [BB]) | with_reducible refine Gst.now ?_ | with_reducible refine vawp_draw mixed (by kernel_rfl) ?_ | with_reducible first | refine lwV_out ?_ | refine lwV_out0 ?_ | refine lkC_out ?_ | refine And.intro (by omega) ?_ | fail)
    with_reducible refine call_ok ?_
    refine clone_v (xs := []) rfl (fun _ => rfl) (by simp) ?_
    repeat (first | (simp (maxSteps := 1000000) only [↓reduceIte, go_sem]) | (simp (maxSteps := 1000000) (disch := first | omega | assumption) only [BB]) | with_reducible refine Gst.now ?_ | with_reducible refine vawp_draw mixed (by kernel_rfl) ?_ | with_reducible first | refine lwV_out ?_ | refine lwV_out0 ?_ | refine lkC_out ?_ | refine And.intro (by omega) ?_ | fail)
    refine hq _ _ ?_
    repeat (first | (simp (maxSteps := 1000000) only [↓reduceIte, go_sem]) | (simp (maxSteps := 1000000) (disch := first | omega | assumption) only [BB]) | with_reducible refine Gst.now ?_ | with_reducible refine vawp_draw mixed (by kernel_rfl) ?_ | with_reducible first | refine lwV_out ?_ | refine lwV_out0 ?_ | refine lkC_out ?_ | refine And.intro (by omega) ?_ | fail)
    exact .now (hK true fun _ => rfl)
  · repeat (first | (simp (maxSteps := 1000000) only [↓reduceIte, go_sem]) | (simp (maxSteps := 1000000) (disch := first | omega | assumption) only [BB]) | with_reducible refine Gst.now ?_ | with_reducible refine vawp_draw mixed (by kernel_rfl) ?_ | with_reducible first | refine lwV_out ?_ | refine lwV_out0 ?_ | refine lkC_out ?_ | refine And.intro (by omega) ?_ | fail)
    with_reducible refine call_ok ?_
    refine clone_own ((hset_ne _ _ h2).trans (hset_at _ _ _)) h4 (by rw [packB_len]; omega) ?_
    repeat (first | (simp (maxSteps := 1000000) only [↓reduceIte, go_sem]) | (simp (maxSteps := 1000000) (disch := first | omega | assumption) only [BB]) | with_reducible refine Gst.now ?_ | with_reducible refine vawp_draw mixed (by kernel_rfl) ?_ | with_reducible first | refine lwV_out ?_ | refine lwV_out0 ?_ | refine lkC_out ?_ | refine And.intro (by omega) ?_ | fail)
    refine hq _ _ ?_
    repeat (first | (simp (maxSteps := 1000000) only [↓reduceIte, go_sem]) | (simp (maxSteps := 1000000) (disch := first | omega | assumption) only [BB]) | with_reducible refine Gst.now ?_ | with_reducible refine vawp_draw mixed (by kernel_rfl) ?_ | with_reducible first | refine lwV_out ?_ | refine lwV_out0 ?_ | refine lkC_out ?_ | refine And.intro (by omega) ?_ | fail)
    exact .now (hK nl h4)
end
end Go.Proofs.Ytncicgfbnjneeaa.VBitsW
