/- the laws of chapter 13, over the machine of values: MatchFinds, MatchRuns, MatchTwice. -/
import Derived.Test.YtipeglbklhincaaDoorProg
import Derived.Test.YtipeglbklhincaaDoorAbV16
import Derived.Test.YtipeglbklhincaaDoorAbFacts
import Derived.Test.YtipeglbklhincaaDoorAbVG
import Derived.Test.YtipeglbklhincaaDoorAbVRow1
import Derived.Test.YtipeglbklhincaaDoorAbVSame
import Derived.Test.YtipeglbklhincaaDoorAbVMatch
import Derived.Test.YtipeglbklhincaaDoorAbVMatchB
import Derived.Test.YtipeglbklhincaaDoorAbVMatchC
import Derived.Test.YtipeglbklhincaaDoorAbVMatchD
import Derived.Test.YtipeglbklhincaaDoorAbVFind
import Derived.Test.YtipeglbklhincaaDoorAbVFindB
import Derived.Test.YtipeglbklhincaaDoorAbVFindP
import Derived.Test.YtipeglbklhincaaDoorAbVFindC
import Derived.Test.YtipeglbklhincaaDoorAbVLaw
import Derived.Test.YtipeglbklhincaaDoorAbVFindS
import Derived.KernelRfl
import Derived.Laws.BitsAllLaws
set_option linter.unusedVariables false
set_option linter.unusedSimpArgs false
set_option maxRecDepth 100000
set_option maxHeartbeats 4000000
namespace Go.Proofs.YtipeglbklhincaaDoor.VLawF
open Go.RowKit Go.Proofs.AbM Go.Proofs.YtipeglbklhincaaDoor.Facts Go.Proofs.YtipeglbklhincaaDoor.VG Go.Proofs.YtipeglbklhincaaDoor.VRow1 Go.Proofs.YtipeglbklhincaaDoor.VSame Go.Proofs.YtipeglbklhincaaDoor.VMatch Go.Proofs.YtipeglbklhincaaDoor.VMatchB Go.Proofs.YtipeglbklhincaaDoor.VMatchC Go.Proofs.YtipeglbklhincaaDoor.VMatchD Go.Proofs.YtipeglbklhincaaDoor.VFind Go.Proofs.YtipeglbklhincaaDoor.VFindB Go.Proofs.YtipeglbklhincaaDoor.VFindP Go.Proofs.YtipeglbklhincaaDoor.VFindC Go.Proofs.YtipeglbklhincaaDoor.VLaw Go.Proofs.YtipeglbklhincaaDoor.VFindS
attribute [local go_sem] vawp_skip_eq vawp_seq_eq vawp_region_eq vawp_cond_g vawp_block_eq vawp_exit_eq vawp_ret_eq thenV_ret thenV_exit thenV_normal inBlockV_normal inBlockV_ret inBlockV_exit resKV_nil resKV_tmp resKV_cell oneV_one oneV_nil oneV_more initV_nil initV_cons updV_at evv_tmp evv_func evv_global evv_int evv_bool evv_str evv_snil evv_pnil evv_agg ofV3_int ofV3_bool ofV3_str ofV3_snil ofV3_pnil vok_tmp vok_func vok_global vok_int vok_bool vok_str vok_snil vok_pnil vok_agg cloV3_int cloV3_bool cloV3_str cloV3_snil cloV3_pnil voks_nil voks_cons scV_int scV_bool scV_str isBlV_b isBV_t isBV_f lwV_none lwV_sc lwV_agg lwV_tup lwV_isl lwV_own lwV_op lwV_ip lwV_fn lwV_junk vops_nil vops_n vops_s gsN_eq vop dstOk_some dstOk_none pkV_b blkV_set eRead_f eRead_t vLoad_op vLoad_ip vStore_op cells_sc cells_isl cells_own cells_op cells_ip cells_fn cells_agg parts_sc parts_isl parts_own parts_op parts_ip parts_fn parts_agg one_sc one_isl one_own one_op one_ip one_fn vField_op vField_ip ePart_f ePart_t vFieldV_agg vIx_isl vIx_own vIx_op vIx_ip vIxV_agg vIxV_str vLen_str vLen_isl vLen_own vLen_agg bndE_none bndE_int vSlice_isl vSlice_str vBin_add vBin_sub vBin_mul vBin_quo vBin_rem vBin_and vBin_or vBin_xor vBin_andNot vBin_eql vBin_neq vBin_lss vBin_leq vBin_gtr vBin_geq vBin_shr_i8 vBin_shl_i8 vBin_shr_i16 vBin_shl_i16 vBin_shr_i32 vBin_shl_i32 vBin_shr_i64 vBin_shl_i64 vBin_shr_u8 vBin_shl_u8 vBin_shr_u16 vBin_shl_u16 vBin_shr_u32 vBin_shl_u32 vBin_shr_u64 vBin_shl_u64 vBin_seq vBin_sne vBin_isln vBin_opn vBin_ipn ex_sc ex_sc2 ex_sc3 ex_tup calleeV wSc_pb wSc_pi wSc_not wSc_neg wSc_com wSc_min2 wSc_max2 vfold_nil vfold_one vfold_cons vfill_nil vfill_e eFill_s vBuild vBox vAlloc setV_map setV_zs setV_zn setV_s hset_hset eConv_ss vConv_e iv_eq ivI_eq ex_get ex_getI set_iv set_ivI okNil isNilV isSlV hdel_at hset_at List.map_toArray List.map_cons List.map_nil List.nil_append List.cons_append List.append_nil List.toList_toArray List.getElem?_toArray List.getElem_toArray List.getElem_cons_zero List.getElem_cons_succ List.getElem?_cons_zero List.getElem?_cons_succ List.set_cons_zero List.set_cons_succ List.set_set List.length_cons List.length_nil List.length_set List.length_map List.all_cons List.all_nil List.drop_zero List.drop_succ_cons List.take_succ_cons List.take_zero List.flatMap_cons Bool.and_eq_true true_and and_true if_true if_false ite_true ite_false forall_eq' forall_eq exists_eq_left exists_eq_left' exists_eq' Value.bool.injEq Value.int.injEq Value.string.injEq Value.pointer.injEq Option.some.injEq AV.sc.injEq AV.op.injEq AV.ip.injEq AV.own.injEq AV.agg.injEq VB.cells.injEq VB.iter.injEq Prod.mk.injEq decide_eq_true_eq decide_eq_false_iff_not Nat.reduceEqDiff Nat.reduceLT Nat.reduceLeDiff Nat.reduceSub Nat.reduceBEq reduceIte Int.reduceLE Int.reduceLT Int.reduceToNat Int.reduceNeg Int.reduceEq Int.reduceNe Int.cast_ofNat_Int Nat.reduceMul Nat.reduceAdd Nat.reduceDiv Nat.reduceMod Nat.reducePow Int.reduceSub Int.reduceAdd Int.reduceMul Int.reducePow Option.isSome_some Option.isSome_none Option.bind_some Option.map_some Option.map_none Option.toList_some Option.toList_none true_or or_true or_false false_or Bool.not_true Bool.not_false Bool.not_eq_true Bool.false_eq_true Bool.not_not false_implies true_implies implies_true Nat.zero_add Nat.add_zero Nat.mul_one Bool.not_eq_true' Bool.true_eq_false Bool.and_true Bool.true_and Bool.and_false Bool.false_and Bool.or_true Bool.true_or Bool.or_false Bool.false_or Option.isNone_some Option.isNone_none Int.reduceBEq Int.reduceBNe beq_self_eq_true bne_self_eq_false beq_iff_eq not_false_eq_true not_true_eq_false Decidable.not_not bne_iff_ne ne_eq Int.toNat_natCast gt_lt ge_le c_add c_mul c_sub c_addn c_nadd c_muln c_nmul c_subn c_nsub c_divn c_modn c_div c_mod c_tdivn c_tmodn c_tdiv c_tmod c_pow c_nn c_beq c_beqn c_bne c_bnen wr64 wr32 wru64 wru32 wru16 wru8 c_if c_if1 c_if2 c_lt c_le c_eq c_ltn c_len c_nlt c_nle c_eqn m_drop m_take Nat.add_sub_cancel_left Nat.add_sub_cancel Int.reduceTMod Int.reduceTDiv Int.reduceMod Int.reduceDiv isC_some hset_ne hdel_ne hdel_hset hdel_hset_ne blkV_nset blkV_ndel hset_hdel gV_t gV_f isGdV_b isGdV_u isBV_u isGdV_g isBV_gt isBV_gf decide_true decide_false Bool.or_eq_false_iff eq_self Nat.lt_irrefl Int.lt_irrefl Nat.le_refl Int.le_refl
attribute [local go_sem high] vops_pk vops_mv vops_as vops_smv pk_and pk_or pk_gand pk_gor pk_orn pk_gorn
attribute [local go_sem] ag3 sz3 zc3 ik3 ag4 sz4 zc4 ag5 sz5 zc5 ik5 ag9 sz9 zc9 iq9 ag22 sz22 el22 zc22 is22 ag23 sz23 el23 zc23 is23 ag25 sz25 zc25 ik25 ag41 sz41 zc41 eqs41 nes41 bo41 ag44 sz44 zc44 pt44 ag45 sz45 ea45 an45 zc45 bo45 ag46 sz46 el46 zc46 is46 ag47 sz47 ea47 an47 ag49 sz49 ag55 sz55 zc55 ik55 of41_0 fd41_0 of41_1 fd41_1 of41_2 fd41_2 of49_0 fd49_0 of49_1 fd49_1 of49_2 fd49_2 of49_3 fd49_3 eqb neb
section
variable {n : Nat} {h : VH} {K : AV → VH → Prop}
attribute [local go_sem] Nat.zero_le Nat.sub_zero
theorem copy_v {nl : Bool} {l : Nat} {xs : List Nat} (hl : l = xs.length) (hb : xs.length ≤ 140737488355328) (hK : ∀ j, h j = none → FrK K (.own j 0 l) (hset h j (.cells 5 false (xs.map (iv .u8))))) : VC Tryd.prog GL (n + 1) 17 [.isl nl l (xs.map (iv .u8))] h K := by
  refine VC_go Tryd.func17 rfl (by decide) Tryd.ntmps17 Tryd.results17 rfl fun Q hq hn => ?_
  subst hl
  repeat (first | (simp (maxSteps := 1000000) only [↓reduceIte, go_sem]) | (simp (maxSteps := 1000000) (disch := first | omega | assumption) only [BB]) | with_reducible refine Gst.now ?_ | with_reducible refine vawp_draw mixed (by kernel_rfl) ?_ | with_reducible first | refine lwV_out ?_ | refine lwV_out0 ?_ | refine lkC_out ?_ | refine And.intro (by omega) ?_ | fail)
  refine vBuildS_o bs23 ?_ ?_ ?_ ?_ ?_
  rfl
  rfl
  rfl
  rfl
  intro j hj
  repeat (first | (simp (maxSteps := 1000000) only [↓reduceIte, go_sem]) | (simp (maxSteps := 1000000) (disch := first | omega | assumption) only [BB]) | with_reducible refine Gst.now ?_ | with_reducible refine vawp_draw mixed (by kernel_rfl) ?_ | with_reducible first | refine lwV_out ?_ | refine lwV_out0 ?_ | refine lkC_out ?_ | refine And.intro (by omega) ?_ | fail)
  apply vApp_own_isl ap23 (by simp only [go_sem])
  case hv => first | (simp []; done) | (simp []; omega) | rfl | assumption
  case hj => repeat (first | exact hset_at _ _ _ | assumption | refine (hset_ne _ _ (by first | omega | assumption)).trans ?_ | refine (hdel_ne _ (by first | omega | assumption)).trans ?_ | fail)
  case hl => first | (simp []; done) | (simp []; omega) | rfl | assumption
  case h1 => first | omega | (simp []; omega) | (simp []; done)
  case h2 => first | omega | (simp []; omega) | (simp []; done)
  intro j' hj'
  try simp (disch := first | omega | assumption) only [go_sem, hset_none, hdel_none] at hj'
  try simp (disch := first | omega | assumption) only [hset_none, hdel_none] at hj'
  repeat (first | (simp (maxSteps := 1000000) only [↓reduceIte, go_sem]) | (simp (maxSteps := 1000000) (disch := first | omega | assumption) only [BB]) | with_reducible refine Gst.now ?_ | with_reducible refine vawp_draw mixed (by kernel_rfl) ?_ | with_reducible first | refine lwV_out ?_ | refine lwV_out0 ?_ | refine lkC_out ?_ | refine And.intro (by omega) ?_ | fail)
  refine hq _ _ ?_
  repeat (first | (simp (maxSteps := 1000000) only [↓reduceIte, go_sem]) | (simp (maxSteps := 1000000) (disch := first | omega | assumption) only [BB]) | with_reducible refine Gst.now ?_ | with_reducible refine vawp_draw mixed (by kernel_rfl) ?_ | with_reducible first | refine lwV_out ?_ | refine lwV_out0 ?_ | refine lkC_out ?_ | refine And.intro (by omega) ?_ | fail)
  exact hK j' hj'
theorem finds_v {nl : Bool} {l : Nat} {b : List Nat} {level : Int} (hl : l = b.length) (hb : b.length ≤ 140737488355328) (h8 : ∀ x ∈ b, x < 256) (hK : K (.sc (.bool (true))) h) : VC Tryd.prog GL (n + 6) 4 [.isl nl l (b.map (iv .u8)), (.sc (.int .i64 (level)))] h K := by
  refine VC_go Tryd.func4 rfl (by decide) Tryd.ntmps4 Tryd.results4 rfl fun Q hq hn => ?_
  subst hl
  repeat (first | (simp (maxSteps := 1000000) only [↓reduceIte, go_sem]) | (simp (maxSteps := 1000000) (disch := first | omega | assumption) only [BB]) | with_reducible refine Gst.now ?_ | with_reducible refine vawp_draw mixed (by kernel_rfl) ?_ | with_reducible first | refine lwV_out ?_ | refine lwV_out0 ?_ | refine lkC_out ?_ | refine And.intro (by omega) ?_ | fail)
  with_reducible refine call_ok ?_
  refine alive_v ?_
  repeat (first | (simp (maxSteps := 1000000) only [↓reduceIte, go_sem]) | (simp (maxSteps := 1000000) (disch := first | omega | assumption) only [BB]) | with_reducible refine Gst.now ?_ | with_reducible refine vawp_draw mixed (by kernel_rfl) ?_ | with_reducible first | refine lwV_out ?_ | refine lwV_out0 ?_ | refine lkC_out ?_ | refine And.intro (by omega) ?_ | fail)
  split
  · repeat (first | (simp (maxSteps := 1000000) only [↓reduceIte, go_sem]) | (simp (maxSteps := 1000000) (disch := first | omega | assumption) only [BB]) | with_reducible refine Gst.now ?_ | with_reducible refine vawp_draw mixed (by kernel_rfl) ?_ | with_reducible first | refine lwV_out ?_ | refine lwV_out0 ?_ | refine lkC_out ?_ | refine And.intro (by omega) ?_ | fail)
    refine hq _ _ ?_
    repeat (first | (simp (maxSteps := 1000000) only [↓reduceIte, go_sem]) | (simp (maxSteps := 1000000) (disch := first | omega | assumption) only [BB]) | with_reducible refine Gst.now ?_ | with_reducible refine vawp_draw mixed (by kernel_rfl) ?_ | with_reducible first | refine lwV_out ?_ | refine lwV_out0 ?_ | refine lkC_out ?_ | refine And.intro (by omega) ?_ | fail)
    exact .now hK
  · rename_i h15
    have h15 : b.length ≤ 1500 := by simpa using h15
    have hx := findF_ok b (chD level) (most := (b.length : Int)) (by omega)
    have hc := findF_cnt b (chD level)
    have hz : ¬ 0 < level → (findF b (chD level)).length = b.length := fun hh => by
      have : chD level = 0 := by
        unfold chD
        rw [show (min (max level 0) 9).toNat = 0 by omega]; rfl
      rw [this]; exact findF_zero b
    repeat (first | (simp (maxSteps := 1000000) only [↓reduceIte, go_sem]) | (simp (maxSteps := 1000000) (disch := first | omega | assumption) only [BB]) | with_reducible refine Gst.now ?_ | with_reducible refine vawp_draw mixed (by kernel_rfl) ?_ | with_reducible first | refine lwV_out ?_ | refine lwV_out0 ?_ | refine lkC_out ?_ | refine And.intro (by omega) ?_ | fail)
    with_reducible refine call_ok ?_
    refine find_v (b := b) (level := level) rfl (by omega) h8 fun nl2 => ?_
    generalize findF b (chD level) = ts at *
    repeat (first | (simp (maxSteps := 1000000) only [↓reduceIte, go_sem]) | (simp (maxSteps := 1000000) (disch := first | omega | assumption) only [BB]) | with_reducible refine Gst.now ?_ | with_reducible refine vawp_draw mixed (by kernel_rfl) ?_ | with_reducible first | refine lwV_out ?_ | refine lwV_out0 ?_ | refine lkC_out ?_ | refine And.intro (by omega) ?_ | fail)
    with_reducible refine call_ok ?_
    refine rexpand_v (ts := ts) (most := (b.length : Nat)) rfl (by omega) (by omega) fun nl3 => ?_
    rw [hx]
    simp only
    repeat (first | (simp (maxSteps := 1000000) only [↓reduceIte, go_sem]) | (simp (maxSteps := 1000000) (disch := first | omega | assumption) only [BB]) | with_reducible refine Gst.now ?_ | with_reducible refine vawp_draw mixed (by kernel_rfl) ?_ | with_reducible first | refine lwV_out ?_ | refine lwV_out0 ?_ | refine lkC_out ?_ | refine And.intro (by omega) ?_ | fail)
    with_reducible refine call_ok ?_
    refine same_t (xs := b) (ys := b) rfl rfl rfl (by omega) ?_
    have e1 : (b.length < ts.length) = False := eq_false (by omega)
    repeat (first | (simp (maxSteps := 1000000) only [↓reduceIte, go_sem, e1]) | (simp (maxSteps := 1000000) (disch := first | omega | assumption) only [BB, e1]) | with_reducible refine Gst.now ?_ | with_reducible refine vawp_draw mixed (by kernel_rfl) ?_ | with_reducible first | refine lwV_out ?_ | refine lwV_out0 ?_ | refine lkC_out ?_ | refine And.intro (by omega) ?_ | fail)
    by_cases hlv : 0 < level
    · have e2 := eq_true hlv
      repeat (first | (simp (maxSteps := 1000000) only [↓reduceIte, go_sem, e1, e2]) | (simp (maxSteps := 1000000) (disch := first | omega | assumption) only [BB, e1, e2]) | with_reducible refine Gst.now ?_ | with_reducible refine vawp_draw mixed (by kernel_rfl) ?_ | with_reducible first | refine lwV_out ?_ | refine lwV_out0 ?_ | refine lkC_out ?_ | refine And.intro (by omega) ?_ | fail)
      refine hq _ _ ?_
      repeat (first | (simp (maxSteps := 1000000) only [↓reduceIte, go_sem, e1, e2]) | (simp (maxSteps := 1000000) (disch := first | omega | assumption) only [BB, e1, e2]) | with_reducible refine Gst.now ?_ | with_reducible refine vawp_draw mixed (by kernel_rfl) ?_ | with_reducible first | refine lwV_out ?_ | refine lwV_out0 ?_ | refine lkC_out ?_ | refine And.intro (by omega) ?_ | fail)
      exact .now hK
    · have e2 := eq_false hlv
      have e3 := hz hlv
      repeat (first | (simp (maxSteps := 1000000) only [↓reduceIte, go_sem, e1, e2, e3]) | (simp (maxSteps := 1000000) (disch := first | omega | assumption) only [BB, e1, e2, e3]) | with_reducible refine Gst.now ?_ | with_reducible refine vawp_draw mixed (by kernel_rfl) ?_ | with_reducible first | refine lwV_out ?_ | refine lwV_out0 ?_ | refine lkC_out ?_ | refine And.intro (by omega) ?_ | fail)
      refine hq _ _ ?_
      repeat (first | (simp (maxSteps := 1000000) only [↓reduceIte, go_sem, e1, e2, e3]) | (simp (maxSteps := 1000000) (disch := first | omega | assumption) only [BB, e1, e2, e3]) | with_reducible refine Gst.now ?_ | with_reducible refine vawp_draw mixed (by kernel_rfl) ?_ | with_reducible first | refine lwV_out ?_ | refine lwV_out0 ?_ | refine lkC_out ?_ | refine And.intro (by omega) ?_ | fail)
      exact .now hK
/-- Find, of an own row: that row, from now on as it is. -/
theorem find_o {e : TypeId} {nl : Bool} {l j : Nat} {cs : List AV} {level : Int} (hj : h j = some (.cells e nl cs)) (hw : VC Tryd.prog GL (n + 4) 16 [.isl nl l cs, (.sc (.int .i64 (level)))] (hdel h j) K) : VC Tryd.prog GL (n + 4) 16 [.own j 0 l, (.sc (.int .i64 (level)))] h K := by
  obtain ⟨fn, c, h1, h2, h3, h4, hw⟩ := hw
  refine ⟨fn, c, h1, h2, h3, h4, ?_⟩
  obtain rfl := Option.some.inj (h1.symm.trans Tryd.func16)
  injection h2 with h2
  subst h2
  rw [vawp_seq_eq] at hw ⊢
  simp only [go_sem] at hw ⊢
  refine ⟨hw.1, Gst.frz (nl := nl) (cs := cs) j hj (fun i => ?_) hw.2⟩
  unfold updV
  split
  · exact .refl _
  · match i with
    | 0 => exact .own _
    | 1 => exact .refl _
    | i + 2 => exact .refl _
theorem twice_v {nl : Bool} {l : Nat} {b : List Nat} (hl : l = b.length) (hb : b.length ≤ 140737488355328) (h8 : ∀ x ∈ b, x < 256) (hK : K (.sc (.bool (true))) h) : VC Tryd.prog GL (n + 6) 7 [.isl nl l (b.map (iv .u8))] h K := by
  refine VC_go Tryd.func7 rfl (by decide) Tryd.ntmps7 Tryd.results7 rfl fun Q hq hn => ?_
  subst hl
  repeat (first | (simp (maxSteps := 1000000) only [↓reduceIte, go_sem]) | (simp (maxSteps := 1000000) (disch := first | omega | assumption) only [BB]) | with_reducible refine Gst.now ?_ | with_reducible refine vawp_draw mixed (by kernel_rfl) ?_ | with_reducible first | refine lwV_out ?_ | refine lwV_out0 ?_ | refine lkC_out ?_ | refine And.intro (by omega) ?_ | fail)
  with_reducible refine call_ok ?_
  refine alive_v ?_
  repeat (first | (simp (maxSteps := 1000000) only [↓reduceIte, go_sem]) | (simp (maxSteps := 1000000) (disch := first | omega | assumption) only [BB]) | with_reducible refine Gst.now ?_ | with_reducible refine vawp_draw mixed (by kernel_rfl) ?_ | with_reducible first | refine lwV_out ?_ | refine lwV_out0 ?_ | refine lkC_out ?_ | refine And.intro (by omega) ?_ | fail)
  split
  · repeat (first | (simp (maxSteps := 1000000) only [↓reduceIte, go_sem]) | (simp (maxSteps := 1000000) (disch := first | omega | assumption) only [BB]) | with_reducible refine Gst.now ?_ | with_reducible refine vawp_draw mixed (by kernel_rfl) ?_ | with_reducible first | refine lwV_out ?_ | refine lwV_out0 ?_ | refine lkC_out ?_ | refine And.intro (by omega) ?_ | fail)
    refine hq _ _ ?_
    repeat (first | (simp (maxSteps := 1000000) only [↓reduceIte, go_sem]) | (simp (maxSteps := 1000000) (disch := first | omega | assumption) only [BB]) | with_reducible refine Gst.now ?_ | with_reducible refine vawp_draw mixed (by kernel_rfl) ?_ | with_reducible first | refine lwV_out ?_ | refine lwV_out0 ?_ | refine lkC_out ?_ | refine And.intro (by omega) ?_ | fail)
    exact .now hK
  · rename_i h3
    have h3 : b.length ≤ 300 := by simpa using h3
    have hc := findF_cnt b (chD 9)
    have hx := findF_ok (b ++ b) (chD 9) (most := 600) (by rw [List.length_append]; omega)
    have hy := findF_bytes (b ++ b) (chD 9)
    have hc2 := findF_cnt (b ++ b) (chD 9)
    rw [List.length_append] at hy hc2
    repeat (first | (simp (maxSteps := 1000000) only [↓reduceIte, go_sem]) | (simp (maxSteps := 1000000) (disch := first | omega | assumption) only [BB]) | with_reducible refine Gst.now ?_ | with_reducible refine vawp_draw mixed (by kernel_rfl) ?_ | with_reducible first | refine lwV_out ?_ | refine lwV_out0 ?_ | refine lkC_out ?_ | refine And.intro (by omega) ?_ | fail)
    with_reducible refine call_ok ?_
    refine find_v (b := b) (level := 9) rfl (by omega) h8 fun nl2 => ?_
    generalize findF b (chD 9) = ts at *
    repeat (first | (simp (maxSteps := 1000000) only [↓reduceIte, go_sem]) | (simp (maxSteps := 1000000) (disch := first | omega | assumption) only [BB]) | with_reducible refine Gst.now ?_ | with_reducible refine vawp_draw mixed (by kernel_rfl) ?_ | with_reducible first | refine lwV_out ?_ | refine lwV_out0 ?_ | refine lkC_out ?_ | refine And.intro (by omega) ?_ | fail)
    with_reducible refine call_ok ?_
    refine copy_v rfl (by omega) fun j hj => .now ?_
    repeat (first | (simp (maxSteps := 1000000) only [↓reduceIte, go_sem]) | (simp (maxSteps := 1000000) (disch := first | omega | assumption) only [BB]) | with_reducible refine Gst.now ?_ | with_reducible refine vawp_draw mixed (by kernel_rfl) ?_ | with_reducible first | refine lwV_out ?_ | refine lwV_out0 ?_ | refine lkC_out ?_ | refine And.intro (by omega) ?_ | fail)
    apply vApp_own_isl ap23 (by simp only [go_sem])
    case hv => first | (simp []; done) | (simp []; omega) | rfl | assumption
    case hj => repeat (first | exact hset_at _ _ _ | assumption | refine (hset_ne _ _ (by first | omega | assumption)).trans ?_ | refine (hdel_ne _ (by first | omega | assumption)).trans ?_ | fail)
    case hl => first | (simp []; done) | (simp []; omega) | rfl | assumption
    case h1 => first | omega | (simp []; omega) | (simp []; done)
    case h2 => first | omega | (simp []; omega) | (simp []; done)
    intro j' hj'
    try simp (disch := first | omega | assumption) only [go_sem, hset_none, hdel_none] at hj'
    try simp (disch := first | omega | assumption) only [hset_none, hdel_none] at hj'
    rw [← List.map_append]
    with_reducible first | refine lwV_out ?_ | refine lwV_out0 ?_ | refine lkC_out ?_
    repeat (first | (simp (maxSteps := 1000000) only [↓reduceIte, go_sem]) | (simp (maxSteps := 1000000) (disch := first | omega | assumption) only [BB]) | with_reducible refine vawp_draw mixed (by kernel_rfl) ?_ | with_reducible first | refine lwV_out ?_ | refine lwV_out0 ?_ | refine lkC_out ?_ | refine And.intro (by omega) ?_ | fail)
    refine call_ok (find_o (hset_at _ _ _) ?_)
    rw [hdel_hset hj']
    refine find_v (b := b ++ b) (by simp) (by rw [List.length_append]; omega) (fun x hx => ?_) fun nl4 => ?_
    · rcases List.mem_append.1 hx with h1 | h1 <;> exact h8 x h1
    · generalize findF (b ++ b) (chD 9) = ts2 at *
      repeat (first | (simp (maxSteps := 1000000) only [↓reduceIte, go_sem]) | (simp (maxSteps := 1000000) (disch := first | omega | assumption) only [BB]) | with_reducible refine Gst.now ?_ | with_reducible refine vawp_draw mixed (by kernel_rfl) ?_ | with_reducible first | refine lwV_out ?_ | refine lwV_out0 ?_ | refine lkC_out ?_ | refine And.intro (by omega) ?_ | fail)
      with_reducible refine call_ok ?_
      refine rexpand_v (ts := ts2) (most := 600) rfl (by omega) (by omega) fun nl5 => ?_
      rw [hx]
      simp only
      have e1 : b.length + b.length = 2 * b.length := by omega
      have e2 : (ts.length ≤ b.length) = True := eq_true hc
      have e3 : (b ++ b).length = 2 * b.length := by rw [List.length_append]; omega
      have e4 : (b.length ≤ 2 * b.length) = True := eq_true (by omega)
      have e5 : IntKind.i64.wrap ((2 * b.length : Nat) : Int) = ((2 * b.length : Nat) : Int) := by rw [IntKind.wrap_i64]; omega
      repeat (first | (simp (maxSteps := 1000000) only [↓reduceIte, go_sem, e1, e2, e3, e4, e5]) | (simp (maxSteps := 1000000) (disch := first | omega | assumption) only [BB, e1, e2, e3, e4, e5]) | with_reducible refine Gst.now ?_ | with_reducible refine vawp_draw mixed (by kernel_rfl) ?_ | with_reducible first | refine lwV_out ?_ | refine lwV_out0 ?_ | refine lkC_out ?_ | refine And.intro (by omega) ?_ | fail)
      refine call_ok (same_t (xs := (b ++ b).take b.length) (ys := b) (by simp) (by simp) rfl (by simp; omega) ?_)
      repeat (first | (simp (maxSteps := 1000000) only [↓reduceIte, go_sem, e1, e2, e3, e4, e5]) | (simp (maxSteps := 1000000) (disch := first | omega | assumption) only [BB, e1, e2, e3, e4, e5]) | with_reducible refine Gst.now ?_ | with_reducible refine vawp_draw mixed (by kernel_rfl) ?_ | with_reducible first | refine lwV_out ?_ | refine lwV_out0 ?_ | refine lkC_out ?_ | refine And.intro (by omega) ?_ | fail)
      refine call_ok (same_t (xs := (((b ++ b).drop b.length).take (2 * b.length - b.length))) (ys := b) (by rw [List.drop_left, List.take_of_length_le (by omega)]) (by simp; omega) rfl (by simp; omega) ?_)
      repeat (first | (simp (maxSteps := 1000000) only [↓reduceIte, go_sem, e1, e2, e3, e4, e5]) | (simp (maxSteps := 1000000) (disch := first | omega | assumption) only [BB, e1, e2, e3, e4, e5]) | with_reducible refine Gst.now ?_ | with_reducible refine vawp_draw mixed (by kernel_rfl) ?_ | with_reducible first | refine lwV_out ?_ | refine lwV_out0 ?_ | refine lkC_out ?_ | refine And.intro (by omega) ?_ | fail)
      with_reducible refine call_ok ?_
      refine mbytes_v (ts := ts2) rfl (by omega) ?_
      rw [hy]
      repeat (first | (simp (maxSteps := 1000000) only [↓reduceIte, go_sem, e1, e2, e3, e4, e5]) | (simp (maxSteps := 1000000) (disch := first | omega | assumption) only [BB, e1, e2, e3, e4, e5]) | with_reducible refine Gst.now ?_ | with_reducible refine vawp_draw mixed (by kernel_rfl) ?_ | with_reducible first | refine lwV_out ?_ | refine lwV_out0 ?_ | refine lkC_out ?_ | refine And.intro (by omega) ?_ | fail)
      refine hq _ _ ?_
      repeat (first | (simp (maxSteps := 1000000) only [↓reduceIte, go_sem, e1, e2, e3, e4, e5]) | (simp (maxSteps := 1000000) (disch := first | omega | assumption) only [BB, e1, e2, e3, e4, e5]) | with_reducible refine Gst.now ?_ | with_reducible refine vawp_draw mixed (by kernel_rfl) ?_ | with_reducible first | refine lwV_out ?_ | refine lwV_out0 ?_ | refine lkC_out ?_ | refine And.intro (by omega) ?_ | fail)
      exact .now hK
theorem and1023 (n : Int) : bits .and .i64 n 1023 = (((n % 1024).toNat : Nat) : Int) := by
  have h31 : (BitVec.ofInt 64 1023).toNat = 2 ^ 10 - 1 := by decide
  have key : (BitVec.ofInt 64 n &&& BitVec.ofInt 64 1023).toNat = (n % ((2 ^ 64 : Nat) : Int)).toNat % 2 ^ 10 := by
    rw [BitVec.toNat_and, BitVec.toNat_ofInt, h31, Nat.and_two_pow_sub_one_eq_mod]
  show IntKind.i64.wrap ((BitVec.ofInt 64 n &&& BitVec.ofInt 64 1023).toNat : Nat) = _
  rw [key, IntKind.wrap_i64]
  omega
theorem and7 (n : Int) : bits .and .i64 n 7 = (((n % 8).toNat : Nat) : Int) := by
  have h31 : (BitVec.ofInt 64 7).toNat = 2 ^ 3 - 1 := by decide
  have key : (BitVec.ofInt 64 n &&& BitVec.ofInt 64 7).toNat = (n % ((2 ^ 64 : Nat) : Int)).toNat % 2 ^ 3 := by
    rw [BitVec.toNat_and, BitVec.toNat_ofInt, h31, Nat.and_two_pow_sub_one_eq_mod]
  show IntKind.i64.wrap ((BitVec.ofInt 64 n &&& BitVec.ofInt 64 7).toNat : Nat) = _
  rw [key, IntKind.wrap_i64]
  omega
theorem chD_pos {v : Nat} (h1 : v < 8) : 1 ≤ chD (1 + (v : Int)) := by
  unfold chD
  rw [show (min (max (1 + (v : Int)) 0) 9).toNat = v + 1 by omega]
  exact (by decide : ∀ v, v < 8 → 1 ≤ chainN.getD (v + 1) 0) v h1
theorem runs_v {c : Nat} {m level : Int} (hc : c < 256) (hK : K (.sc (.bool (true))) h) : VC Tryd.prog GL (n + 6) 5 [(.sc (.int .u8 ((c : Nat)))), (.sc (.int .i64 (m))), (.sc (.int .i64 (level)))] h K := by
  refine VC_go Tryd.func5 rfl (by decide) Tryd.ntmps5 Tryd.results5 rfl fun Q hq hn => ?_
  repeat (first | (simp (maxSteps := 1000000) only [↓reduceIte, go_sem]) | (simp (maxSteps := 1000000) (disch := first | omega | assumption) only [BB]) | with_reducible refine Gst.now ?_ | with_reducible refine vawp_draw mixed (by kernel_rfl) ?_ | with_reducible first | refine lwV_out ?_ | refine lwV_out0 ?_ | refine lkC_out ?_ | refine And.intro (by omega) ?_ | fail)
  with_reducible refine call_ok ?_
  refine alive_v ?_
  have e1 := and1023 m
  have e2 := and7 level
  have hN : (m % 1024).toNat ≤ 1023 := by omega
  have hv : (level % 8).toNat < 8 := by omega
  generalize (m % 1024).toNat = N at *
  generalize (level % 8).toNat = v at *
  repeat (first | (simp (maxSteps := 1000000) only [↓reduceIte, go_sem, e1, e2]) | (simp (maxSteps := 1000000) (disch := first | omega | assumption) only [BB, e1, e2]) | with_reducible refine Gst.now ?_ | with_reducible refine vawp_draw mixed (by kernel_rfl) ?_ | with_reducible first | refine lwV_out ?_ | refine lwV_out0 ?_ | refine lkC_out ?_ | refine And.intro (by omega) ?_ | fail)
  refine vMake_1 mk23 (by omega) (by omega) fun j hj => ?_
  repeat (first | (simp (maxSteps := 1000000) only [↓reduceIte, go_sem, e1, e2]) | (simp (maxSteps := 1000000) (disch := first | omega | assumption) only [BB, e1, e2]) | with_reducible refine Gst.now ?_ | with_reducible refine vawp_draw mixed (by kernel_rfl) ?_ | with_reducible first | refine lwV_out ?_ | refine lwV_out0 ?_ | refine lkC_out ?_ | refine And.intro (by omega) ?_ | fail)
  refine vawp_loop (k := N) (fun d ρ h1 => ∃ i : Nat, d + i = N ∧ ρ 0 = (.sc (.int .u8 ((c : Nat)))) ∧ ρ 1 = (.sc (.int .i64 ((N : Nat)))) ∧ ρ 2 = (.sc (.int .i64 ((1 + v : Nat)))) ∧ ρ 7 = .own j 0 N ∧ ρ 22 = (.sc (.int .i64 ((N : Nat)))) ∧ ρ 23 = (.sc (.int .i64 ((i : Nat)))) ∧ h1 = hset h j (.cells 5 false ((List.replicate i c ++ List.replicate (N - i) 0).map (iv .u8)))) ?_ ?_
  · refine ⟨0, by omega, ?_⟩
    repeat (first | (simp (maxSteps := 1000000) only [↓reduceIte, go_sem, e1, e2]) | (simp (maxSteps := 1000000) (disch := first | omega | assumption) only [BB, e1, e2]) | with_reducible refine Gst.now ?_ | with_reducible refine vawp_draw mixed (by kernel_rfl) ?_ | with_reducible first | refine lwV_out ?_ | refine lwV_out0 ?_ | refine lkC_out ?_ | refine And.intro (by omega) ?_ | fail)
    simp [iv]
  · rintro d ρ h1 ⟨i, hd, g0, g1, g2, g7, g22, g23, rfl⟩
    by_cases hi : i < N
    · have e3 := eq_true hi
      have e4 : (List.replicate i c ++ List.replicate (N - i) 0).length = N := by simp; omega
      have e5 : (List.replicate i c ++ List.replicate (N - i) 0).set i c = List.replicate (i + 1) c ++ List.replicate (N - (i + 1)) 0 := by
        rw [List.set_append_right _ _ (by simp), List.length_replicate, Nat.sub_self, show N - i = (N - (i + 1)) + 1 by omega, List.replicate_succ, List.set_cons_zero, List.replicate_succ', List.append_assoc]
        rfl
      repeat (first | (simp (maxSteps := 1000000) only [↓reduceIte, go_sem, e1, e2, g0, g1, g2, g7, g22, g23, e3, e4, e5]) | (simp (maxSteps := 1000000) (disch := first | omega | assumption) only [BB, e1, e2, g0, g1, g2, g7, g22, g23, e3, e4, e5]) | with_reducible refine Gst.now ?_ | with_reducible refine vawp_draw mixed (by kernel_rfl) ?_ | with_reducible first | refine lwV_out ?_ | refine lwV_out0 ?_ | refine lkC_out ?_ | refine And.intro (by omega) ?_ | fail)
      exact ⟨d - 1, by omega, i + 1, by omega, rfl, rfl⟩
    · have e3 := eq_false hi
      have hii : i = N := by omega
      subst hii
      have hx := findF_ok (List.replicate i c) (chD (1 + (v : Nat))) (most := (i : Int)) (by rw [List.length_replicate]; omega)
      have hcn := findF_rep (c := c) hN (chD_pos hv)
      have hcl := findF_cnt (List.replicate i c) (chD (1 + (v : Nat)))
      rw [List.length_replicate] at hcl
      repeat (first | (simp (maxSteps := 1000000) only [↓reduceIte, go_sem, e1, e2, g0, g1, g2, g7, g22, g23, e3]) | (simp (maxSteps := 1000000) (disch := first | omega | assumption) only [BB, e1, e2, g0, g1, g2, g7, g22, g23, e3]) | with_reducible refine vawp_draw mixed (by kernel_rfl) ?_ | with_reducible first | refine lwV_out ?_ | refine lwV_out0 ?_ | refine lkC_out ?_ | refine And.intro (by omega) ?_ | fail)
      refine .frz1 (l := i) 7 j (hset_at _ _ _) (by simp only [go_sem, g7]) (.now ?_)
      rw [hdel_hset hj, show List.replicate i c ++ List.replicate (i - i) 0 = List.replicate i c by simp]
      repeat (first | (simp (maxSteps := 1000000) only [↓reduceIte, go_sem, e1, e2, g0, g1, g2, g7, g22, g23, e3]) | (simp (maxSteps := 1000000) (disch := first | omega | assumption) only [BB, e1, e2, g0, g1, g2, g7, g22, g23, e3]) | with_reducible refine Gst.now ?_ | with_reducible refine vawp_draw mixed (by kernel_rfl) ?_ | with_reducible first | refine lwV_out ?_ | refine lwV_out0 ?_ | refine lkC_out ?_ | refine And.intro (by omega) ?_ | fail)
      with_reducible refine call_ok ?_
      refine find_v (b := List.replicate i c) (level := ((1 + v : Nat) : Int)) (by simp) (by rw [List.length_replicate]; omega) (fun x hx => by rw [List.eq_of_mem_replicate hx]; exact hc) fun nl2 => ?_
      rw [show ((1 + v : Nat) : Int) = 1 + (v : Int) by omega]
      generalize findF (List.replicate i c) (chD (1 + (v : Int))) = ts at *
      repeat (first | (simp (maxSteps := 1000000) only [↓reduceIte, go_sem, e1, e2, g0, g1, g2, g7, g22, g23, e3]) | (simp (maxSteps := 1000000) (disch := first | omega | assumption) only [BB, e1, e2, g0, g1, g2, g7, g22, g23, e3]) | with_reducible refine Gst.now ?_ | with_reducible refine vawp_draw mixed (by kernel_rfl) ?_ | with_reducible first | refine lwV_out ?_ | refine lwV_out0 ?_ | refine lkC_out ?_ | refine And.intro (by omega) ?_ | fail)
      with_reducible refine call_ok ?_
      refine rexpand_v (ts := ts) (most := (i : Nat)) rfl (by omega) (by omega) fun nl3 => ?_
      rw [hx]
      simp only [List.length_replicate]
      repeat (first | (simp (maxSteps := 1000000) only [↓reduceIte, go_sem, e1, e2, g0, g1, g2, g7, g22, g23, e3]) | (simp (maxSteps := 1000000) (disch := first | omega | assumption) only [BB, e1, e2, g0, g1, g2, g7, g22, g23, e3]) | with_reducible refine Gst.now ?_ | with_reducible refine vawp_draw mixed (by kernel_rfl) ?_ | with_reducible first | refine lwV_out ?_ | refine lwV_out0 ?_ | refine lkC_out ?_ | refine And.intro (by omega) ?_ | fail)
      with_reducible refine call_ok ?_
      refine same_t (xs := List.replicate i c) (ys := List.replicate i c) rfl (by simp) (by simp) (by simp; omega) ?_
      have e4 : (ts.length ≤ 4 + i / 258) = True := eq_true hcn
      repeat (first | (simp (maxSteps := 1000000) only [↓reduceIte, go_sem, e1, e2, g0, g1, g2, g7, g22, g23, e3, e4]) | (simp (maxSteps := 1000000) (disch := first | omega | assumption) only [BB, e1, e2, g0, g1, g2, g7, g22, g23, e3, e4]) | with_reducible refine Gst.now ?_ | with_reducible refine vawp_draw mixed (by kernel_rfl) ?_ | with_reducible first | refine lwV_out ?_ | refine lwV_out0 ?_ | refine lkC_out ?_ | refine And.intro (by omega) ?_ | fail)
      refine hq _ _ ?_
      repeat (first | (simp (maxSteps := 1000000) only [↓reduceIte, go_sem, e1, e2, g0, g1, g2, g7, g22, g23, e3, e4]) | (simp (maxSteps := 1000000) (disch := first | omega | assumption) only [BB, e1, e2, g0, g1, g2, g7, g22, g23, e3, e4]) | with_reducible refine Gst.now ?_ | with_reducible refine vawp_draw mixed (by kernel_rfl) ?_ | with_reducible first | refine lwV_out ?_ | refine lwV_out0 ?_ | refine lkC_out ?_ | refine And.intro (by omega) ?_ | fail)
      exact .now hK
end
end Go.Proofs.YtipeglbklhincaaDoor.VLawF
