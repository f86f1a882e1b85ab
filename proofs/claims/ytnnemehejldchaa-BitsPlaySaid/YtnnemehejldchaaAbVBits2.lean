/- package bits over the machine of values: the writer. -/
import Derived.Test.YtnnemehejldchaaProg
import Derived.Test.YtnnemehejldchaaAbV9
import Derived.Test.YtnnemehejldchaaAbFacts
import Derived.Test.YtnnemehejldchaaAbBitsM
import Derived.Test.YtnnemehejldchaaAbVBits
import Derived.KernelRfl
import Derived.Laws.BitsAllLaws
set_option linter.unusedVariables false
set_option linter.unusedSimpArgs false
set_option maxRecDepth 100000
set_option maxHeartbeats 4000000
namespace Go.Proofs.Ytnnemehejldchaa.VBits2
open Go.RowKit Go.Proofs.AbM Go.Proofs.Ytnnemehejldchaa.Facts Go.Proofs.Ytnnemehejldchaa.BitsM Go.Proofs.Ytnnemehejldchaa.VBits
attribute [local go_sem] vawp_skip_eq vawp_seq_eq vawp_region_eq vawp_cond_ite vawp_block_eq vawp_exit_eq vawp_ret_eq thenV_ret thenV_exit thenV_normal inBlockV_normal inBlockV_ret inBlockV_exit resKV_nil resKV_tmp resKV_cell oneV_one oneV_nil oneV_more initV_nil initV_cons updV_at evv_tmp evv_func evv_global evv_int evv_bool evv_str evv_snil evv_pnil evv_agg ofV3_int ofV3_bool ofV3_str ofV3_snil ofV3_pnil vok_tmp vok_func vok_global vok_int vok_bool vok_str vok_snil vok_pnil vok_agg cloV3_int cloV3_bool cloV3_str cloV3_snil cloV3_pnil voks_nil voks_cons scV_int scV_bool scV_str isBlV_b isBV_t isBV_f lwV_none lwV_sc lwV_agg lwV_tup lwV_isl lwV_own lwV_op lwV_ip lwV_fn lwV_junk vops_nil vops_n vops_s gsN_eq vop dstOk_some dstOk_none pkV_b blkV_set eRead_f eRead_t vLoad_op vLoad_ip vStore_op cells_sc cells_isl cells_own cells_op cells_ip cells_fn cells_agg parts_sc parts_isl parts_own parts_op parts_ip parts_fn parts_agg one_sc one_isl one_own one_op one_ip one_fn vField_op vField_ip ePart_f ePart_t vFieldV_agg vIx_isl vIx_own vIx_op vIx_ip vIxV_agg vIxV_str vLen_str vLen_isl vLen_own vLen_agg bndE_none bndE_int vSlice_isl vSlice_str vBin_add vBin_sub vBin_mul vBin_quo vBin_rem vBin_and vBin_or vBin_xor vBin_andNot vBin_eql vBin_neq vBin_lss vBin_leq vBin_gtr vBin_geq vBin_shr_i8 vBin_shl_i8 vBin_shr_i16 vBin_shl_i16 vBin_shr_i32 vBin_shl_i32 vBin_shr_i64 vBin_shl_i64 vBin_shr_u8 vBin_shl_u8 vBin_shr_u16 vBin_shl_u16 vBin_shr_u32 vBin_shl_u32 vBin_shr_u64 vBin_shl_u64 vBin_seq vBin_sne vBin_isln vBin_opn vBin_ipn ex_sc ex_sc2 ex_sc3 ex_tup calleeV wSc_pb wSc_pi wSc_not wSc_neg wSc_com wSc_min2 wSc_max2 vfold_nil vfold_one vfold_cons vfill_nil vfill_e eFill_s vBuild vBox vAlloc setV_map setV_zs setV_zn setV_s hset_hset eConv_ss vConv_e iv_eq ivI_eq ex_get ex_getI set_iv set_ivI okNil isNilV isSlV hdel_at hset_at List.map_toArray List.map_cons List.map_nil List.nil_append List.cons_append List.append_nil List.toList_toArray List.getElem?_toArray List.getElem_toArray List.getElem_cons_zero List.getElem_cons_succ List.getElem?_cons_zero List.getElem?_cons_succ List.set_cons_zero List.set_cons_succ List.set_set List.length_cons List.length_nil List.length_set List.length_map List.all_cons List.all_nil List.drop_zero List.drop_succ_cons List.take_succ_cons List.take_zero List.flatMap_cons Bool.and_eq_true true_and and_true if_true if_false ite_true ite_false forall_eq' forall_eq exists_eq_left exists_eq_left' exists_eq' Value.bool.injEq Value.int.injEq Value.string.injEq Value.pointer.injEq Option.some.injEq AV.sc.injEq AV.op.injEq AV.ip.injEq AV.own.injEq AV.agg.injEq VB.cells.injEq VB.iter.injEq Prod.mk.injEq decide_eq_true_eq decide_eq_false_iff_not Nat.reduceEqDiff Nat.reduceLT Nat.reduceLeDiff Nat.reduceSub Nat.reduceBEq reduceIte Int.reduceLE Int.reduceLT Int.reduceToNat Int.reduceNeg Int.reduceEq Int.reduceNe Int.cast_ofNat_Int Nat.reduceMul Nat.reduceAdd Nat.reduceDiv Nat.reduceMod Nat.reducePow Int.reduceSub Int.reduceAdd Int.reduceMul Int.reducePow Option.isSome_some Option.isSome_none Option.bind_some Option.map_some Option.map_none Option.toList_some Option.toList_none true_or or_true or_false false_or Bool.not_true Bool.not_false Bool.not_eq_true Bool.false_eq_true Bool.not_not false_implies true_implies implies_true Nat.zero_add Nat.add_zero Nat.mul_one Bool.not_eq_true' Bool.true_eq_false Bool.and_true Bool.true_and Bool.and_false Bool.false_and Bool.or_true Bool.true_or Bool.or_false Bool.false_or Option.isNone_some Option.isNone_none Int.reduceBEq Int.reduceBNe beq_self_eq_true bne_self_eq_false beq_iff_eq not_false_eq_true not_true_eq_false Decidable.not_not bne_iff_ne ne_eq Int.toNat_natCast gt_lt ge_le c_add c_mul c_sub c_addn c_nadd c_muln c_nmul c_subn c_nsub c_divn c_modn c_div c_mod c_tdivn c_tmodn c_tdiv c_tmod c_pow c_nn c_beq c_beqn c_bne c_bnen wr64 wr32 wru64 wru32 wru16 wru8 c_if c_lt c_le c_eq c_ltn c_len c_nlt c_nle c_eqn m_drop m_take Nat.add_sub_cancel_left Nat.add_sub_cancel Int.reduceTMod Int.reduceTDiv Int.reduceMod Int.reduceDiv isC_some hset_ne hdel_ne hdel_hset hdel_hset_ne blkV_nset blkV_ndel hset_hdel
attribute [local go_sem high] vops_pk vops_mv vops_as vops_smv
attribute [local go_sem] ag3 sz3 zc3 ik3 ag4 sz4 zc4 ag5 sz5 zc5 ik5 ag9 sz9 zc9 iq9 ag22 sz22 el22 zc22 is22 ag25 sz25 el25 zc25 is25 ag27 sz27 zc27 bo27 ag28 sz28 zc28 ik28 ag30 sz30 zc30 bo30 ag32 sz32 zc32 pt32 ag49 sz49 zc49 pt49 ag54 sz54 zc54 bo54 of27_0 fd27_0 of27_1 fd27_1 of30_0 fd30_0 of30_1 fd30_1 of30_2 fd30_2 of30_3 fd30_3 of54_0 fd54_0 of54_1 fd54_1 eqb neb
section
variable {n : Nat} {h h0 : VH} {K : AV → VH → Prop}
/-- A heap with a writer, block j, above h0. -/
def WrH (h0 : VH) (j : Nat) (X : List Nat) (h : VH) : Prop := h0 j = none ∧
  ((X = [] ∧ h = hset h0 j (.cells 27 false [.isl true 0 [], (.sc (.int .i64 ((X.length : Nat))))])) ∨
   ∃ jb nl, jb ≠ j ∧ h0 jb = none ∧ (nl = true → packB X = []) ∧ h = hset (hset h0 jb (.cells 5 nl ((packB X).map (iv .u8)))) j (.cells 27 false [.own jb 0 (packB X).length, (.sc (.int .i64 ((X.length : Nat))))]))
theorem WrH.frame {j r : Nat} {X : List Nat} {b : VB} (hw : WrH h0 j X h) (hr : h r = none) : WrH (hset h0 r b) j X (hset h r b) ∧ j ≠ r := by
  obtain ⟨h1, ⟨rfl, rfl⟩ | ⟨jb, nl, h2, h3, h4, rfl⟩⟩ := hw
  · rw [hset_none] at hr
    exact ⟨⟨by rw [hset_ne _ _ (Ne.symm hr.1)]; exact h1, .inl ⟨rfl, hset_comm hr.1⟩⟩, Ne.symm hr.1⟩
  · rw [hset_none, hset_none] at hr
    refine ⟨⟨by rw [hset_ne _ _ (Ne.symm hr.1)]; exact h1, .inr ⟨jb, nl, h2, by rw [hset_ne _ _ (Ne.symm hr.2.1)]; exact h3, h4, ?_⟩⟩, Ne.symm hr.1⟩
    rw [hset_comm hr.1, hset_comm hr.2.1]
theorem WrH.none {j r : Nat} {X : List Nat} (hw : WrH h0 j X h) (hr : h r = none) : h0 r = none := by
  obtain ⟨h1, ⟨rfl, rfl⟩ | ⟨jb, nl, h2, h3, h4, rfl⟩⟩ := hw
  · rw [hset_none] at hr; exact hr.2
  · rw [hset_none, hset_none] at hr; exact hr.2.2
/-- What stands below a writer. -/
theorem WrH.below {j r : Nat} {X : List Nat} {b : VB} (hw : WrH h0 j X h) (hr : h0 r = some b) : h r = some b := by
  obtain ⟨h1, ⟨rfl, rfl⟩ | ⟨jb, nl, h2, h3, h4, rfl⟩⟩ := hw
  · rw [hset_ne]
    · exact hr
    · rintro rfl; rw [h1] at hr; cases hr
  · rw [hset_ne, hset_ne]
    · exact hr
    · rintro rfl; rw [h3] at hr; cases hr
    · rintro rfl; rw [h1] at hr; cases hr
/-- .. is changed. -/
theorem WrH.put {j r : Nat} {X : List Nat} {b c : VB} (hw : WrH h0 j X h) (hr : h0 r = some b) : WrH (hset h0 r c) j X (hset h r c) := by
  obtain ⟨h1, ⟨rfl, rfl⟩ | ⟨jb, nl, h2, h3, h4, rfl⟩⟩ := hw
  · have hn : r ≠ j := by rintro rfl; rw [h1] at hr; cases hr
    exact ⟨by rw [hset_ne _ _ hn.symm]; exact h1, .inl ⟨rfl, hset_comm hn⟩⟩
  · have hn : r ≠ j := by rintro rfl; rw [h1] at hr; cases hr
    have hm : r ≠ jb := by rintro rfl; rw [h3] at hr; cases hr
    refine ⟨by rw [hset_ne _ _ hn.symm]; exact h1, .inr ⟨jb, nl, h2, by rw [hset_ne _ _ hm.symm]; exact h3, h4, ?_⟩⟩
    rw [hset_comm hn, hset_comm hm]
theorem WrH.del {j r : Nat} {X : List Nat} {b : VB} (hw : WrH h0 j X h) (hr : h0 r = some b) : WrH (hdel h0 r) j X (hdel h r) := by
  obtain ⟨h1, ⟨rfl, rfl⟩ | ⟨jb, nl, h2, h3, h4, rfl⟩⟩ := hw
  · have hn : r ≠ j := by rintro rfl; rw [h1] at hr; cases hr
    exact ⟨by rw [hdel_ne _ hn.symm]; exact h1, .inl ⟨rfl, hdel_hset_ne hn⟩⟩
  · have hn : r ≠ j := by rintro rfl; rw [h1] at hr; cases hr
    have hm : r ≠ jb := by rintro rfl; rw [h3] at hr; cases hr
    refine ⟨by rw [hdel_ne _ hn.symm]; exact h1, .inr ⟨jb, nl, h2, by rw [hdel_ne _ hm.symm]; exact h3, h4, ?_⟩⟩
    rw [hdel_hset_ne hn, hdel_hset_ne hm]
theorem len_v {j : Nat} {X : List Nat} (hw : WrH h0 j X h) (hK : K (.sc (.int .i64 ((X.length : Nat)))) h) : VC Try.prog GL (n + 1) 16 [.op j 0] h K := by
  refine VC_go Try.func16 rfl (by decide) Try.ntmps16 Try.results16 rfl fun Q hq hn => ?_
  obtain ⟨h1, ⟨rfl, rfl⟩ | ⟨jb, nl, h2, h3, h4, rfl⟩⟩ := hw
  · repeat (first | simp (disch := first | omega | assumption) only [↓reduceIte, go_sem] | with_reducible refine Gst.now ?_ | with_reducible refine vawp_draw mixed (by kernel_rfl) ?_ | with_reducible first | refine lwV_out ?_ | refine lwV_out0 ?_ | refine And.intro (by omega) ?_ | fail)
    refine hq _ _ ?_
    repeat (first | simp (disch := first | omega | assumption) only [↓reduceIte, go_sem] | with_reducible refine Gst.now ?_ | with_reducible refine vawp_draw mixed (by kernel_rfl) ?_ | with_reducible first | refine lwV_out ?_ | refine lwV_out0 ?_ | refine And.intro (by omega) ?_ | fail)
    exact .now hK
  · repeat (first | simp (disch := first | omega | assumption) only [↓reduceIte, go_sem] | with_reducible refine Gst.now ?_ | with_reducible refine vawp_draw mixed (by kernel_rfl) ?_ | with_reducible first | refine lwV_out ?_ | refine lwV_out0 ?_ | refine And.intro (by omega) ?_ | fail)
    refine hq _ _ ?_
    repeat (first | simp (disch := first | omega | assumption) only [↓reduceIte, go_sem] | with_reducible refine Gst.now ?_ | with_reducible refine vawp_draw mixed (by kernel_rfl) ?_ | with_reducible first | refine lwV_out ?_ | refine lwV_out0 ?_ | refine And.intro (by omega) ?_ | fail)
    exact .now hK
theorem bit_v {j v : Nat} {X : List Nat} (hw : WrH h0 j X h) (hX : IsBits X) (hl : X.length < 4294967296) (hv : v < 4294967296) (hK : ∀ h', WrH h0 j (X ++ [v % 2]) h' → K (.tup []) h') : VC Try.prog GL (n + 1) 30 [.op j 0, (.sc (.int .u32 (v)))] h K := by
  refine VC_go Try.func30 rfl (by decide) Try.ntmps30 Try.results30 rfl fun Q hq hn => ?_
  refine vawp_mid (fun ρ hh => ρ 0 = .op j 0 ∧ ρ 1 = (.sc (.int .u32 (v))) ∧ ∃ jb, jb ≠ j ∧ h0 j = none ∧ h0 jb = none ∧ hh = hset (hset h0 jb (.cells 5 false ((if X.length % 8 = 0 then packB X ++ [0] else packB X).map (iv .u8)))) j (.cells 27 false [.own jb 0 ((X.length + 8) / 8), (.sc (.int .i64 ((X.length : Nat))))])) (fun K hk => ?_) fun ρ hh ⟨g0, g1, jb, h2, h1, h3, hh'⟩ => ?_
  · obtain ⟨h1, ⟨rfl, rfl⟩ | ⟨jb, nl, h2, h3, h4, rfl⟩⟩ := hw
    · repeat (first | simp (disch := first | omega | assumption) only [↓reduceIte, go_sem] | with_reducible refine Gst.now ?_ | with_reducible refine vawp_draw mixed (by kernel_rfl) ?_ | with_reducible first | refine lwV_out ?_ | refine lwV_out0 ?_ | refine And.intro (by omega) ?_ | fail)
      refine vBuildS_i bs25 ?_ ?_ ?_ ?_ ?_
      rfl
      rfl
      rfl
      rfl
      repeat (first | simp (disch := first | omega | assumption) only [↓reduceIte, go_sem] | with_reducible refine Gst.now ?_ | with_reducible refine vawp_draw mixed (by kernel_rfl) ?_ | with_reducible first | refine lwV_out ?_ | refine lwV_out0 ?_ | refine And.intro (by omega) ?_ | fail)
      apply vApp_nil_isl ap25 (by simp only [go_sem])
      case hv => first | (simp []; done) | (simp []; omega)
      case h1 => first | omega | (simp []; omega) | (simp []; done)
      case h2 => first | omega | (simp []; omega) | (simp []; done)
      try (case hK0 => first | (intro hh; omega) | (intro hh; exact absurd hh (by decide)))
      intro _ jb hjb
      simp (disch := first | omega | assumption) only [go_sem, hset_none, hdel_none] at hjb
      try simp (disch := first | omega | assumption) only [hset_none, hdel_none] at hjb
      repeat (first | simp (disch := first | omega | assumption) only [↓reduceIte, go_sem] | with_reducible refine Gst.now ?_ | with_reducible refine vawp_draw mixed (by kernel_rfl) ?_ | with_reducible first | refine lwV_out ?_ | refine lwV_out0 ?_ | refine And.intro (by omega) ?_ | fail)
      refine hk _ _ ?_
      repeat (first | simp (disch := first | omega | assumption) only [↓reduceIte, go_sem] | with_reducible refine Gst.now ?_ | with_reducible refine vawp_draw mixed (by kernel_rfl) ?_ | with_reducible first | refine lwV_out ?_ | refine lwV_out0 ?_ | refine And.intro (by omega) ?_ | fail)
      refine ⟨jb, hjb.1, h1, hjb.2, ?_⟩
      rw [hset_comm hjb.1, hset_hset]
      rfl
    · repeat (first | simp (disch := first | omega | assumption) only [↓reduceIte, go_sem] | with_reducible refine Gst.now ?_ | with_reducible refine vawp_draw mixed (by kernel_rfl) ?_ | with_reducible first | refine lwV_out ?_ | refine lwV_out0 ?_ | refine And.intro (by omega) ?_ | fail)
      split
      · rename_i h8
        repeat (first | simp (disch := first | omega | assumption) only [↓reduceIte, go_sem] | with_reducible refine Gst.now ?_ | with_reducible refine vawp_draw mixed (by kernel_rfl) ?_ | with_reducible first | refine lwV_out ?_ | refine lwV_out0 ?_ | refine And.intro (by omega) ?_ | fail)
        refine vBuildS_i bs25 ?_ ?_ ?_ ?_ ?_
        rfl
        rfl
        rfl
        rfl
        repeat (first | simp (disch := first | omega | assumption) only [↓reduceIte, go_sem] | with_reducible refine Gst.now ?_ | with_reducible refine vawp_draw mixed (by kernel_rfl) ?_ | with_reducible first | refine lwV_out ?_ | refine lwV_out0 ?_ | refine And.intro (by omega) ?_ | fail)
        apply vApp_own_isl ap25 (by simp only [go_sem])
        case hv => first | (simp [packB_len]; done) | (simp [packB_len]; omega)
        case hj => repeat (first | exact hset_at _ _ _ | assumption | refine (hset_ne _ _ (by first | omega | assumption)).trans ?_ | refine (hdel_ne _ (by first | omega | assumption)).trans ?_ | fail)
        case hl => first | (simp [packB_len]; done) | (simp [packB_len]; omega)
        case h1 => first | omega | (simp [packB_len]; omega) | (simp [packB_len]; done)
        case h2 => first | omega | (simp [packB_len]; omega) | (simp [packB_len]; done)
        intro jb' hjb
        simp (disch := first | omega | assumption) only [go_sem, hset_none, hdel_none] at hjb
        try simp (disch := first | omega | assumption) only [hset_none, hdel_none] at hjb
        repeat (first | simp (disch := first | omega | assumption) only [↓reduceIte, go_sem] | with_reducible refine Gst.now ?_ | with_reducible refine vawp_draw mixed (by kernel_rfl) ?_ | with_reducible first | refine lwV_out ?_ | refine lwV_out0 ?_ | refine And.intro (by omega) ?_ | fail)
        refine hk _ _ ?_
        repeat (first | simp (disch := first | omega | assumption) only [↓reduceIte, go_sem] | with_reducible refine Gst.now ?_ | with_reducible refine vawp_draw mixed (by kernel_rfl) ?_ | with_reducible first | refine lwV_out ?_ | refine lwV_out0 ?_ | refine And.intro (by omega) ?_ | fail)
        refine ⟨jb', hjb.1, h1, hjb.2, ?_⟩
        rw [if_pos h8, List.map_append, hset_comm hjb.1]
        have : (packB X).length + 1 = (X.length + 8) / 8 := by rw [packB_len]; omega
        rw [this, hset_hset]; rfl
      · rename_i h8
        repeat (first | simp (disch := first | omega | assumption) only [↓reduceIte, go_sem] | with_reducible refine Gst.now ?_ | with_reducible refine vawp_draw mixed (by kernel_rfl) ?_ | with_reducible first | refine lwV_out ?_ | refine lwV_out0 ?_ | refine And.intro (by omega) ?_ | fail)
        refine hk _ _ ?_
        repeat (first | simp (disch := first | omega | assumption) only [↓reduceIte, go_sem] | with_reducible refine Gst.now ?_ | with_reducible refine vawp_draw mixed (by kernel_rfl) ?_ | with_reducible first | refine lwV_out ?_ | refine lwV_out0 ?_ | refine And.intro (by omega) ?_ | fail)
        refine ⟨jb, h2, h1, h3, ?_⟩
        have hl : (packB X).length = (X.length + 8) / 8 := by rw [packB_len]; omega
        have : nl = false := by
          cases nl with
          | false => rfl
          | true => have := h4 rfl; rw [this] at hl; simp at hl
        rw [if_neg h8, hl, this]
  · subst hh'
    have hlen : (if X.length % 8 = 0 then packB X ++ [0] else packB X).length = (X.length + 8) / 8 := by split <;> simp [packB_len] <;> omega
    have hget : (if X.length % 8 = 0 then packB X ++ [0] else packB X).getD (X.length / 8) 0 = byteB X (X.length / 8) := by
      rw [List.getD_eq_getElem?_getD]
      split
      · rename_i h0
        have hl0 : (packB X).length = X.length / 8 := by rw [packB_len]; omega
        rw [List.getElem?_append_right (by omega), hl0, Nat.sub_self]
        have := byteB_low hX
        rw [h0] at this
        have : byteB X (X.length / 8) = 0 := by omega
        rw [this]; rfl
      · rw [packB_get (by omega)]; rfl
    have e4 : bits .and .u32 (v : Int) 1 = ((v % 2 : Nat) : Int) := by
      rw [show (1 : Int) = ((1 : Nat) : Int) from rfl, Go.u32_and_nat v 1 hv (by omega), Nat.and_one_is_mod]
    have e5 := or_bit (r := X.length % 8) (v := v % 2) (byteB_low hX) (by omega) (by omega)
    simp only [c_pow, c_mul] at e5
    have hsn := packB_snoc X (v % 2)
    generalize (if X.length % 8 = 0 then packB X ++ [0] else packB X) = bs at *
    repeat (first | simp (disch := first | omega | assumption) only [↓reduceIte, go_sem, g0, g1, e4, e5, hget, hlen] | with_reducible refine Gst.now ?_ | with_reducible refine vawp_draw mixed (by kernel_rfl) ?_ | with_reducible first | refine lwV_out ?_ | refine lwV_out0 ?_ | refine And.intro (by omega) ?_ | fail)
    refine hn _ _ ?_
    repeat (first | simp (disch := first | omega | assumption) only [↓reduceIte, go_sem] | with_reducible refine Gst.now ?_ | with_reducible refine vawp_draw mixed (by kernel_rfl) ?_ | with_reducible first | refine lwV_out ?_ | refine lwV_out0 ?_ | refine And.intro (by omega) ?_ | fail)
    refine .now (hK _ ⟨h1, .inr ⟨jb, false, h2, h3, fun e => (by cases e), ?_⟩⟩)
    rw [packB_len, List.length_append, hsn]
    have e9 : (X.length + [v % 2].length + 7) / 8 = (X.length + 8) / 8 := by rw [List.length_singleton]
    rw [e9, hset_comm h2.symm, hset_hset, hset_comm h2, hset_hset]
    rfl
end
end Go.Proofs.Ytnnemehejldchaa.VBits2
