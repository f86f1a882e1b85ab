/- the reference of chapter 22, over the machine of values. -/
import Derived.Test.YtbmikefignmkdaaProg
import Derived.Test.YtbmikefignmkdaaAbV16
import Derived.Test.YtbmikefignmkdaaAbFacts
import Derived.Test.YtbmikefignmkdaaAbVRow1
import Derived.Test.YtbmikefignmkdaaAbLittleM
import Derived.Test.YtbmikefignmkdaaAbVPut
import Derived.Test.YtbmikefignmkdaaAbVSame
import Derived.Test.YtbmikefignmkdaaAbVJoin
import Derived.Test.YtbmikefignmkdaaAbVSpan
import Derived.Test.YtbmikefignmkdaaAbVSpan2
import Derived.Test.YtbmikefignmkdaaAbVSpan3
import Derived.KernelRfl
import Derived.Laws.BitsAllLaws
set_option linter.unusedVariables false
set_option linter.unusedSimpArgs false
set_option maxRecDepth 100000
set_option maxHeartbeats 4000000
namespace Go.Proofs.Ytbmikefignmkdaa.VSpanR
open Go.RowKit Go.Proofs.AbM Go.Proofs.Ytbmikefignmkdaa.Facts Go.Proofs.Ytbmikefignmkdaa.VRow1 Go.Proofs.Ytbmikefignmkdaa.LittleM Go.Proofs.Ytbmikefignmkdaa.VPut Go.Proofs.Ytbmikefignmkdaa.VSame Go.Proofs.Ytbmikefignmkdaa.VJoin Go.Proofs.Ytbmikefignmkdaa.VSpan Go.Proofs.Ytbmikefignmkdaa.VSpan2 Go.Proofs.Ytbmikefignmkdaa.VSpan3
attribute [local go_sem] vawp_skip_eq vawp_seq_eq vawp_region_eq vawp_cond_g vawp_block_eq vawp_exit_eq vawp_ret_eq thenV_ret thenV_exit thenV_normal inBlockV_normal inBlockV_ret inBlockV_exit resKV_nil resKV_tmp resKV_cell oneV_one oneV_nil oneV_more initV_nil initV_cons updV_at evv_tmp evv_func evv_global evv_int evv_bool evv_str evv_snil evv_pnil evv_agg ofV3_int ofV3_bool ofV3_str ofV3_snil ofV3_pnil vok_tmp vok_func vok_global vok_int vok_bool vok_str vok_snil vok_pnil vok_agg cloV3_int cloV3_bool cloV3_str cloV3_snil cloV3_pnil voks_nil voks_cons scV_int scV_bool scV_str isBlV_b isBV_t isBV_f lwV_none lwV_sc lwV_agg lwV_tup lwV_isl lwV_own lwV_op lwV_ip lwV_fn lwV_junk vops_nil vops_n vops_s gsN_eq vop dstOk_some dstOk_none pkV_b blkV_set eRead_f eRead_t vLoad_op vLoad_ip vStore_op cells_sc cells_isl cells_own cells_op cells_ip cells_fn cells_agg parts_sc parts_isl parts_own parts_op parts_ip parts_fn parts_agg one_sc one_isl one_own one_op one_ip one_fn vField_op vField_ip ePart_f ePart_t vFieldV_agg vIx_isl vIx_own vIx_op vIx_ip vIxV_agg vIxV_str vLen_str vLen_isl vLen_own vLen_agg bndE_none bndE_int vSlice_isl vSlice_str vBin_add vBin_sub vBin_mul vBin_quo vBin_rem vBin_and vBin_or vBin_xor vBin_andNot vBin_eql vBin_neq vBin_lss vBin_leq vBin_gtr vBin_geq vBin_shr_i8 vBin_shl_i8 vBin_shr_i16 vBin_shl_i16 vBin_shr_i32 vBin_shl_i32 vBin_shr_i64 vBin_shl_i64 vBin_shr_u8 vBin_shl_u8 vBin_shr_u16 vBin_shl_u16 vBin_shr_u32 vBin_shl_u32 vBin_shr_u64 vBin_shl_u64 vBin_seq vBin_sne vBin_isln vBin_opn vBin_ipn ex_sc ex_sc2 ex_sc3 ex_tup calleeV wSc_pb wSc_pi wSc_not wSc_neg wSc_com wSc_min2 wSc_max2 vfold_nil vfold_one vfold_cons vfill_nil vfill_e eFill_s vBuild vBox vAlloc setV_map setV_zs setV_zn setV_s hset_hset eConv_ss vConv_e iv_eq ivI_eq ex_get ex_getI set_iv set_ivI okNil isNilV isSlV hdel_at hset_at List.map_toArray List.map_cons List.map_nil List.nil_append List.cons_append List.append_nil List.toList_toArray List.getElem?_toArray List.getElem_toArray List.getElem_cons_zero List.getElem_cons_succ List.getElem?_cons_zero List.getElem?_cons_succ List.set_cons_zero List.set_cons_succ List.set_set List.length_cons List.length_nil List.length_set List.length_map List.all_cons List.all_nil List.drop_zero List.drop_succ_cons List.take_succ_cons List.take_zero List.flatMap_cons Bool.and_eq_true true_and and_true if_true if_false ite_true ite_false forall_eq' forall_eq exists_eq_left exists_eq_left' exists_eq' Value.bool.injEq Value.int.injEq Value.string.injEq Value.pointer.injEq Option.some.injEq AV.sc.injEq AV.op.injEq AV.ip.injEq AV.own.injEq AV.agg.injEq VB.cells.injEq VB.iter.injEq Prod.mk.injEq decide_eq_true_eq decide_eq_false_iff_not Nat.reduceEqDiff Nat.reduceLT Nat.reduceLeDiff Nat.reduceSub Nat.reduceBEq reduceIte Int.reduceLE Int.reduceLT Int.reduceToNat Int.reduceNeg Int.reduceEq Int.reduceNe Int.cast_ofNat_Int Nat.reduceMul Nat.reduceAdd Nat.reduceDiv Nat.reduceMod Nat.reducePow Int.reduceSub Int.reduceAdd Int.reduceMul Int.reducePow Option.isSome_some Option.isSome_none Option.bind_some Option.map_some Option.map_none Option.toList_some Option.toList_none true_or or_true or_false false_or Bool.not_true Bool.not_false Bool.not_eq_true Bool.false_eq_true Bool.not_not false_implies true_implies implies_true Nat.zero_add Nat.add_zero Nat.mul_one Bool.not_eq_true' Bool.true_eq_false Bool.and_true Bool.true_and Bool.and_false Bool.false_and Bool.or_true Bool.true_or Bool.or_false Bool.false_or Option.isNone_some Option.isNone_none Int.reduceBEq Int.reduceBNe beq_self_eq_true bne_self_eq_false beq_iff_eq not_false_eq_true not_true_eq_false Decidable.not_not bne_iff_ne ne_eq Int.toNat_natCast gt_lt ge_le c_add c_mul c_sub c_addn c_nadd c_muln c_nmul c_subn c_nsub c_divn c_modn c_div c_mod c_tdivn c_tmodn c_tdiv c_tmod c_pow c_nn c_beq c_beqn c_bne c_bnen wr64 wr32 wru64 wru32 wru16 wru8 c_if c_if1 c_if2 c_lt c_le c_eq c_ltn c_len c_nlt c_nle c_eqn m_drop m_take Nat.add_sub_cancel_left Nat.add_sub_cancel Int.reduceTMod Int.reduceTDiv Int.reduceMod Int.reduceDiv isC_some hset_ne hdel_ne hdel_hset hdel_hset_ne blkV_nset blkV_ndel hset_hdel gV_t gV_f isGdV_b isGdV_u isBV_u isGdV_g isBV_gt isBV_gf decide_true decide_false Bool.or_eq_false_iff eq_self Nat.lt_irrefl Int.lt_irrefl Nat.le_refl Int.le_refl
attribute [local go_sem high] vops_pk vops_mv vops_as vops_smv pk_and pk_or pk_gand pk_gor pk_orn pk_gorn
attribute [local go_sem] ag3 sz3 zc3 ik3 ag4 sz4 zc4 ag5 sz5 zc5 ik5 ag9 sz9 zc9 iq9 ag22 sz22 el22 zc22 is22 ag25 sz25 zc25 pt25 ag26 sz26 zc26 ik26 ag29 sz29 el29 zc29 is29 ag31 sz31 zc31 bo31 ag33 sz33 el33 zc33 is33 ag35 sz35 zc35 bo35 ag37 sz37 zc37 eqs37 nes37 bo37 ag51 sz51 el51 zc51 is51 ag59 sz59 zc59 ik59 ag61 sz61 zc61 bo61 ag67 sz67 zc67 of31_0 fd31_0 of31_1 fd31_1 of35_0 fd35_0 of35_1 fd35_1 of37_0 fd37_0 of37_1 fd37_1 of61_0 fd61_0 of61_1 fd61_1 eqb neb
section
variable {n : Nat} {h : VH} {K : AV → VH → Prop}
attribute [local go_sem] rowC rowA ex_row row_len row_take row_drop Nat.sub_zero Nat.zero_le
def rowsS (S : List RowV × List Nat) : List RowV := S.1 ++ [⟨false, S.2⟩]
theorem rowsS_len (S : List RowV × List Nat) : (rowsS S).length = S.1.length + 1 := by simp [rowsS]
def refA (sz : Nat) (S : List RowV × List Nat) : AV := .agg [(.sc (.int .i64 ((sz : Nat)))), .isl false (S.1.length + 1) ((rowsS S).flatMap rowC)]
theorem refA_eq (sz : Nat) (S : List RowV × List Nat) : refA sz S = .agg [(.sc (.int .i64 ((sz : Nat)))), .isl false (S.1.length + 1) ((rowsS S).flatMap rowC)] := Eq.trans rfl rfl
attribute [local go_sem] refA_eq
theorem frk_agg2 {r : Nat} {e : TypeId} {nl : Bool} {cs : List AV} {l : Nat} {w : AV} (hr : h r = some (.cells e nl cs)) (hK : FrK K (.agg [w, .isl nl l cs]) (hdel h r)) : FrK K (.agg [w, .own r 0 l]) h := .frz (v' := .agg [w, .isl nl l cs]) r hr (.agg rfl (by
  intro i c c' h1 h2
  match i with
  | 0 => simp only [List.getElem?_cons_zero, Option.some.injEq] at h1 h2; subst h1 h2; exact .refl _
  | 1 => simp only [List.getElem?_cons_succ, List.getElem?_cons_zero, Option.some.injEq] at h1 h2; subst h1 h2; exact .own l
  | i + 2 => simp at h1)) hK
theorem rnew_v {sz : Nat} (hK : K (refA sz ([], [80, 75, 7, 8])) h) : VC Try.prog GL (n + 1) 10 [(.sc (.int .i64 ((sz : Nat))))] h K := by
  refine VC_go Try.func10 rfl (by decide) Try.ntmps10 Try.results10 rfl fun Q hq hn => ?_
  repeat (first | (simp (maxSteps := 1000000) only [↓reduceIte, go_sem]) | (simp (maxSteps := 1000000) (disch := first | omega | assumption) only [BB]) | with_reducible refine Gst.now ?_ | with_reducible refine vawp_draw mixed (by kernel_rfl) ?_ | with_reducible first | refine lwV_out ?_ | refine lwV_out0 ?_ | refine lkC_out ?_ | refine And.intro (by omega) ?_ | fail)
  intro p hp
  repeat (first | (simp (maxSteps := 1000000) only [↓reduceIte, go_sem]) | (simp (maxSteps := 1000000) (disch := first | omega | assumption) only [BB]) | with_reducible refine Gst.now ?_ | with_reducible refine vawp_draw mixed (by kernel_rfl) ?_ | with_reducible first | refine lwV_out ?_ | refine lwV_out0 ?_ | refine lkC_out ?_ | refine And.intro (by omega) ?_ | fail)
  refine vBuildS_i bs33 ?_ ?_ ?_ ?_ ?_
  rfl
  rfl
  rfl
  rfl
  repeat (first | (simp (maxSteps := 1000000) only [↓reduceIte, go_sem]) | (simp (maxSteps := 1000000) (disch := first | omega | assumption) only [BB]) | with_reducible refine Gst.now ?_ | with_reducible refine vawp_draw mixed (by kernel_rfl) ?_ | with_reducible first | refine lwV_out ?_ | refine lwV_out0 ?_ | refine lkC_out ?_ | refine And.intro (by omega) ?_ | fail)
  refine vBuildS_i bs29 ?_ ?_ ?_ ?_ ?_
  rfl
  rfl
  rfl
  rfl
  repeat (first | (simp (maxSteps := 1000000) only [↓reduceIte, go_sem]) | (simp (maxSteps := 1000000) (disch := first | omega | assumption) only [BB]) | with_reducible refine Gst.now ?_ | with_reducible refine vawp_draw mixed (by kernel_rfl) ?_ | with_reducible first | refine lwV_out ?_ | refine lwV_out0 ?_ | refine lkC_out ?_ | refine And.intro (by omega) ?_ | fail)
  refine hq _ _ ?_
  repeat (first | (simp (maxSteps := 1000000) only [↓reduceIte, go_sem]) | (simp (maxSteps := 1000000) (disch := first | omega | assumption) only [BB]) | with_reducible refine Gst.now ?_ | with_reducible refine vawp_draw mixed (by kernel_rfl) ?_ | with_reducible first | refine lwV_out ?_ | refine lwV_out0 ?_ | refine lkC_out ?_ | refine And.intro (by omega) ?_ | fail)
  refine .drop p ?_
  refine FrK.now (hcast (hK) ?_)
  first | rfl | (funext i; simp only [hset, hdel]; repeat' split) <;> (first | rfl | (subst_vars; simp_all [hset, hdel]; done) | (subst_vars; exfalso; simp_all [hset, hdel]; done))
theorem rnext_v {sz c : Nat} {S : List RowV × List Nat} (hX : S.1.length ≤ 1000000000) (hL : S.2.length ≤ sz) (hc : c ≤ 1000000000) (hsz : sz ≤ 16777216) (hK : K (.agg [(.sc (.int .i64 (((placeW sz S.1.length S.2.length c).1 : Nat)))), (.sc (.int .i64 (((placeW sz S.1.length S.2.length c).2 : Nat))))]) h) : VC Try.prog GL (n + 1) 18 [refA sz S, (.sc (.int .i64 ((c : Nat))))] h K := by
  refine VC_go Try.func18 rfl (by decide) Try.ntmps18 Try.results18 rfl fun Q hq hn => ?_
  have e1 := rowsS_len S
  have e2 : (rowsS S).getD S.1.length default = ⟨false, S.2⟩ := getD_last
  have e3 : (S.1.length < S.1.length + 1) = True := eq_true (Nat.lt_succ_self _)
  unfold placeW at hK
  repeat (first | (simp (maxSteps := 1000000) only [↓reduceIte, go_sem, e1, e2, e3]) | (simp (maxSteps := 1000000) (disch := first | omega | assumption) only [BB, e1, e2, e3]) | with_reducible refine Gst.now ?_ | with_reducible refine vawp_draw mixed (by kernel_rfl) ?_ | with_reducible first | refine lwV_out ?_ | refine lwV_out0 ?_ | refine lkC_out ?_ | refine And.intro (by omega) ?_ | fail)
  intro p hp
  try simp (disch := first | omega | assumption) only [go_sem, hset_none, hdel_none] at hp
  try simp (disch := first | omega | assumption) only [hset_none, hdel_none] at hp
  repeat (first | (simp (maxSteps := 1000000) only [↓reduceIte, go_sem, e1, e2, e3]) | (simp (maxSteps := 1000000) (disch := first | omega | assumption) only [BB, e1, e2, e3]) | with_reducible refine Gst.now ?_ | with_reducible refine vawp_draw mixed (by kernel_rfl) ?_ | with_reducible first | refine lwV_out ?_ | refine lwV_out0 ?_ | refine lkC_out ?_ | refine And.intro (by omega) ?_ | fail)
  intro q hq1
  try simp (disch := first | omega | assumption) only [go_sem, hset_none, hdel_none] at hq1
  try simp (disch := first | omega | assumption) only [hset_none, hdel_none] at hq1
  by_cases hlt : sz < S.2.length + c
  · have e4 := decide_eq_true hlt
    rw [if_pos (by omega)] at hK
    repeat (first | (simp (maxSteps := 1000000) only [↓reduceIte, go_sem, e1, e2, e3, e4]) | (simp (maxSteps := 1000000) (disch := first | omega | assumption) only [BB, e1, e2, e3, e4]) | with_reducible refine Gst.now ?_ | with_reducible first | refine lwV_out ?_ | refine lwV_out0 ?_ | refine lkC_out ?_ | refine And.intro (by omega) ?_ | fail)
    apply vawp_quiet 11 0 mixed
    case hk => rfl
    case hok => kernel_rfl
    simp only [List.toList_toArray, List.take_succ_cons, List.take_zero]
    repeat (first | (apply vopsQ_pk; (case hd => rfl); (case h1 => simp (disch := first | omega | assumption) only [↓reduceIte, go_sem, e1, e2, e3, e4]); (case h2 => simp (disch := first | omega | assumption) only [↓reduceIte, go_sem, e1, e2, e3, e4]); (case h3 => simp (disch := first | omega | assumption) only [↓reduceIte, go_sem, e1, e2, e3, e4]); (case hb => simp (disch := first | omega | assumption) only [↓reduceIte, go_sem, e1, e2, e3, e4]); (try simp (disch := first | omega | assumption) only [↓reduceIte, go_sem, e1, e2, e3, e4])) | (apply vopsQ_n; (case hd => rfl); (case hq => (intro K' hk'; repeat (first | simp (maxSteps := 4000000) (disch := first | omega | assumption) only [↓reduceIte, go_sem, e1, e2, e3, e4] | with_reducible refine Gst.now ?_ | with_reducible refine vawp_draw mixed (by kernel_rfl) ?_ | with_reducible first | refine lwV_out ?_ | refine lwV_out0 ?_ | refine lkC_out ?_ | refine And.intro (by omega) ?_ | fail); exact hk'))) | (apply vopsQ_gt; (case hd => rfl); (case h1 => rfl); (case h2 => rfl); (case h3 => simp (disch := first | omega | assumption) only [↓reduceIte, go_sem]); (case hq => (intro K' hk'; repeat (first | simp (maxSteps := 4000000) (disch := first | omega | assumption) only [↓reduceIte, go_sem, e1, e2, e3, e4] | with_reducible refine Gst.now ?_ | with_reducible refine vawp_draw mixed (by kernel_rfl) ?_ | with_reducible first | refine lwV_out ?_ | refine lwV_out0 ?_ | refine lkC_out ?_ | refine And.intro (by omega) ?_ | fail); exact hk'))) | (apply vopsQ_gf'; (case hd => rfl); (case h1 => rfl); (case h2 => rfl); (case h3 => simp (disch := first | omega | assumption) only [↓reduceIte, go_sem, e1, e2, e3, e4])) | (apply vopsQ_gj; (case hd => rfl); (case h1 => rfl); (case h2 => rfl); (case h3 => simp (disch := first | omega | assumption) only [↓reduceIte, go_sem, e1, e2, e3, e4])) | (apply vopsQ_gpk; (case hd => rfl); (case h1 => rfl); (case h2 => rfl); (case h3 => simp (disch := first | omega | assumption) only [↓reduceIte, go_sem, e1, e2, e3, e4]); (case k1 => simp (disch := first | omega | assumption) only [↓reduceIte, go_sem, e1, e2, e3, e4]); (case k2 => simp (disch := first | omega | assumption) only [↓reduceIte, go_sem, e1, e2, e3, e4]); (case k3 => simp (disch := first | omega | assumption) only [↓reduceIte, go_sem, e1, e2, e3, e4]); (case hb => (intro hc; (try simp (disch := first | omega | assumption) only [↓reduceIte, go_sem, e1, e2, e3, e4] at hc); simp (disch := first | omega | assumption) only [↓reduceIte, go_sem, hc, e1, e2, e3, e4])); (try simp (disch := first | omega | assumption) only [↓reduceIte, go_sem, e1, e2, e3, e4])) | (apply vopsQ_gu; (case hd => rfl); (case h1 => rfl); (case h2 => rfl); (case h3 => simp (disch := first | omega | assumption) only [↓reduceIte, go_sem, e1, e2, e3, e4]); (case hq => (intro hc K' hk'; (try simp (disch := first | omega | assumption) only [↓reduceIte, go_sem, e1, e2, e3, e4] at hc); repeat (first | simp (maxSteps := 4000000) (disch := first | omega | assumption) only [↓reduceIte, go_sem, hc, e1, e2, e3, e4] | with_reducible refine Gst.now ?_ | with_reducible refine vawp_draw mixed (by kernel_rfl) ?_ | with_reducible first | refine lwV_out ?_ | refine lwV_out0 ?_ | refine lkC_out ?_ | refine And.intro (by omega) ?_ | fail); exact hk')); (try simp (disch := first | omega | assumption) only [↓reduceIte, go_sem, e1, e2, e3, e4])) | fail)
    simp only [vopsQ_nil]
    refine vany_end (by kernel_rfl) ?_
    repeat (first | (simp (maxSteps := 1000000) only [↓reduceIte, go_sem, e1, e2, e3, e4]) | (simp (maxSteps := 1000000) (disch := first | omega | assumption) only [BB, e1, e2, e3, e4]) | with_reducible refine Gst.now ?_ | with_reducible refine vawp_draw mixed (by kernel_rfl) ?_ | with_reducible first | refine lwV_out ?_ | refine lwV_out0 ?_ | refine lkC_out ?_ | refine And.intro (by omega) ?_ | fail)
    refine hq _ _ ?_
    repeat (first | (simp (maxSteps := 1000000) only [↓reduceIte, go_sem, e1, e2, e3, e4]) | (simp (maxSteps := 1000000) (disch := first | omega | assumption) only [BB, e1, e2, e3, e4]) | with_reducible refine Gst.now ?_ | with_reducible refine vawp_draw mixed (by kernel_rfl) ?_ | with_reducible first | refine lwV_out ?_ | refine lwV_out0 ?_ | refine lkC_out ?_ | refine And.intro (by omega) ?_ | fail)
    refine .drop p (.drop q ?_)
    refine FrK.now (hcast (hK) ?_)
    first | rfl | (funext i; simp only [hset, hdel]; repeat' split) <;> (first | rfl | (subst_vars; simp_all [hset, hdel]; done) | (subst_vars; exfalso; simp_all [hset, hdel]; done))
  · have e4 := decide_eq_false hlt
    rw [if_neg (by omega)] at hK
    repeat (first | (simp (maxSteps := 1000000) only [↓reduceIte, go_sem, e1, e2, e3, e4]) | (simp (maxSteps := 1000000) (disch := first | omega | assumption) only [BB, e1, e2, e3, e4]) | with_reducible refine Gst.now ?_ | with_reducible first | refine lwV_out ?_ | refine lwV_out0 ?_ | refine lkC_out ?_ | refine And.intro (by omega) ?_ | fail)
    apply vawp_quiet 11 0 mixed
    case hk => rfl
    case hok => kernel_rfl
    simp only [List.toList_toArray, List.take_succ_cons, List.take_zero]
    repeat (first | (apply vopsQ_pk; (case hd => rfl); (case h1 => simp (disch := first | omega | assumption) only [↓reduceIte, go_sem, e1, e2, e3, e4]); (case h2 => simp (disch := first | omega | assumption) only [↓reduceIte, go_sem, e1, e2, e3, e4]); (case h3 => simp (disch := first | omega | assumption) only [↓reduceIte, go_sem, e1, e2, e3, e4]); (case hb => simp (disch := first | omega | assumption) only [↓reduceIte, go_sem, e1, e2, e3, e4]); (try simp (disch := first | omega | assumption) only [↓reduceIte, go_sem, e1, e2, e3, e4])) | (apply vopsQ_n; (case hd => rfl); (case hq => (intro K' hk'; repeat (first | simp (maxSteps := 4000000) (disch := first | omega | assumption) only [↓reduceIte, go_sem, e1, e2, e3, e4] | with_reducible refine Gst.now ?_ | with_reducible refine vawp_draw mixed (by kernel_rfl) ?_ | with_reducible first | refine lwV_out ?_ | refine lwV_out0 ?_ | refine lkC_out ?_ | refine And.intro (by omega) ?_ | fail); exact hk'))) | (apply vopsQ_gt; (case hd => rfl); (case h1 => rfl); (case h2 => rfl); (case h3 => simp (disch := first | omega | assumption) only [↓reduceIte, go_sem]); (case hq => (intro K' hk'; repeat (first | simp (maxSteps := 4000000) (disch := first | omega | assumption) only [↓reduceIte, go_sem, e1, e2, e3, e4] | with_reducible refine Gst.now ?_ | with_reducible refine vawp_draw mixed (by kernel_rfl) ?_ | with_reducible first | refine lwV_out ?_ | refine lwV_out0 ?_ | refine lkC_out ?_ | refine And.intro (by omega) ?_ | fail); exact hk'))) | (apply vopsQ_gf'; (case hd => rfl); (case h1 => rfl); (case h2 => rfl); (case h3 => simp (disch := first | omega | assumption) only [↓reduceIte, go_sem, e1, e2, e3, e4])) | (apply vopsQ_gj; (case hd => rfl); (case h1 => rfl); (case h2 => rfl); (case h3 => simp (disch := first | omega | assumption) only [↓reduceIte, go_sem, e1, e2, e3, e4])) | (apply vopsQ_gpk; (case hd => rfl); (case h1 => rfl); (case h2 => rfl); (case h3 => simp (disch := first | omega | assumption) only [↓reduceIte, go_sem, e1, e2, e3, e4]); (case k1 => simp (disch := first | omega | assumption) only [↓reduceIte, go_sem, e1, e2, e3, e4]); (case k2 => simp (disch := first | omega | assumption) only [↓reduceIte, go_sem, e1, e2, e3, e4]); (case k3 => simp (disch := first | omega | assumption) only [↓reduceIte, go_sem, e1, e2, e3, e4]); (case hb => (intro hc; (try simp (disch := first | omega | assumption) only [↓reduceIte, go_sem, e1, e2, e3, e4] at hc); simp (disch := first | omega | assumption) only [↓reduceIte, go_sem, hc, e1, e2, e3, e4])); (try simp (disch := first | omega | assumption) only [↓reduceIte, go_sem, e1, e2, e3, e4])) | (apply vopsQ_gu; (case hd => rfl); (case h1 => rfl); (case h2 => rfl); (case h3 => simp (disch := first | omega | assumption) only [↓reduceIte, go_sem, e1, e2, e3, e4]); (case hq => (intro hc K' hk'; (try simp (disch := first | omega | assumption) only [↓reduceIte, go_sem, e1, e2, e3, e4] at hc); repeat (first | simp (maxSteps := 4000000) (disch := first | omega | assumption) only [↓reduceIte, go_sem, hc, e1, e2, e3, e4] | with_reducible refine Gst.now ?_ | with_reducible refine vawp_draw mixed (by kernel_rfl) ?_ | with_reducible first | refine lwV_out ?_ | refine lwV_out0 ?_ | refine lkC_out ?_ | refine And.intro (by omega) ?_ | fail); exact hk')); (try simp (disch := first | omega | assumption) only [↓reduceIte, go_sem, e1, e2, e3, e4])) | fail)
    simp only [vopsQ_nil]
    refine vany_end (by kernel_rfl) ?_
    repeat (first | (simp (maxSteps := 1000000) only [↓reduceIte, go_sem, e1, e2, e3, e4]) | (simp (maxSteps := 1000000) (disch := first | omega | assumption) only [BB, e1, e2, e3, e4]) | with_reducible refine Gst.now ?_ | with_reducible refine vawp_draw mixed (by kernel_rfl) ?_ | with_reducible first | refine lwV_out ?_ | refine lwV_out0 ?_ | refine lkC_out ?_ | refine And.intro (by omega) ?_ | fail)
    refine hq _ _ ?_
    repeat (first | (simp (maxSteps := 1000000) only [↓reduceIte, go_sem, e1, e2, e3, e4]) | (simp (maxSteps := 1000000) (disch := first | omega | assumption) only [BB, e1, e2, e3, e4]) | with_reducible refine Gst.now ?_ | with_reducible refine vawp_draw mixed (by kernel_rfl) ?_ | with_reducible first | refine lwV_out ?_ | refine lwV_out0 ?_ | refine lkC_out ?_ | refine And.intro (by omega) ?_ | fail)
    refine .drop p (.drop q ?_)
    refine FrK.now (hcast (hK) ?_)
    first | rfl | (funext i; simp only [hset, hdel]; repeat' split) <;> (first | rfl | (subst_vars; simp_all [hset, hdel]; done) | (subst_vars; exfalso; simp_all [hset, hdel]; done))
theorem setV_rows (S : List RowV × List Nat) (v : AV) : setV ((rowsS S).flatMap rowC) S.1.length [v] = S.1.flatMap rowC ++ [v] := by
  unfold rowsS
  rw [flat_snoc]
  exact setV_last (row_len _)
def putS (S : List RowV × List Nat) (c : Nat) (next : Bool) : List RowV × List Nat := if next = true then (rowsS S, [c]) else (S.1, S.2 ++ [c])
theorem rput_v {sz c : Nat} {S : List RowV × List Nat} {next : Bool} (hX : S.1.length ≤ 1000000000) (hL : S.2.length ≤ 16777216) (hK : K (refA sz (putS S c next)) h) : VC Try.prog GL (n + 2) 27 [refA sz S, (.sc (.int .u8 ((c : Nat)))), (.sc (.bool (next)))] h K := by
  refine VC_go Try.func27 rfl (by decide) Try.ntmps27 Try.results27 rfl fun Q hq hn => ?_
  have e1 := rowsS_len S
  repeat (first | (simp (maxSteps := 1000000) only [↓reduceIte, go_sem, e1]) | (simp (maxSteps := 1000000) (disch := first | omega | assumption) only [BB, e1]) | with_reducible refine Gst.now ?_ | with_reducible refine vawp_draw mixed (by kernel_rfl) ?_ | with_reducible first | refine lwV_out ?_ | refine lwV_out0 ?_ | refine lkC_out ?_ | refine And.intro (by omega) ?_ | fail)
  intro p hp
  try simp (disch := first | omega | assumption) only [go_sem, hset_none, hdel_none] at hp
  try simp (disch := first | omega | assumption) only [hset_none, hdel_none] at hp
  repeat (first | (simp (maxSteps := 1000000) only [↓reduceIte, go_sem, e1]) | (simp (maxSteps := 1000000) (disch := first | omega | assumption) only [BB, e1]) | with_reducible refine Gst.now ?_ | with_reducible refine vawp_draw mixed (by kernel_rfl) ?_ | with_reducible first | refine lwV_out ?_ | refine lwV_out0 ?_ | refine lkC_out ?_ | refine And.intro (by omega) ?_ | fail)
  intro q hq1
  try simp (disch := first | omega | assumption) only [go_sem, hset_none, hdel_none] at hq1
  try simp (disch := first | omega | assumption) only [hset_none, hdel_none] at hq1
  repeat (first | (simp (maxSteps := 1000000) only [↓reduceIte, go_sem, e1]) | (simp (maxSteps := 1000000) (disch := first | omega | assumption) only [BB, e1]) | with_reducible refine Gst.now ?_ | with_reducible refine vawp_draw mixed (by kernel_rfl) ?_ | with_reducible first | refine lwV_out ?_ | refine lwV_out0 ?_ | refine lkC_out ?_ | refine And.intro (by omega) ?_ | fail)
  refine vBuildS_o bs29 ?_ ?_ ?_ ?_ ?_
  rfl
  rfl
  rfl
  rfl
  intro r hr
  try simp (disch := first | omega | assumption) only [go_sem, hset_none, hdel_none] at hr
  try simp (disch := first | omega | assumption) only [hset_none, hdel_none] at hr
  repeat (first | (simp (maxSteps := 1000000) only [↓reduceIte, go_sem, e1]) | (simp (maxSteps := 1000000) (disch := first | omega | assumption) only [BB, e1]) | with_reducible refine Gst.now ?_ | with_reducible refine vawp_draw mixed (by kernel_rfl) ?_ | with_reducible first | refine lwV_out ?_ | refine lwV_out0 ?_ | refine lkC_out ?_ | refine And.intro (by omega) ?_ | fail)
  have hlr : ((rowsS S).flatMap rowC).length = S.1.length + 1 := by rw [row_len, e1]
  apply vApp_own_isl ap29 (by simp only [go_sem])
  case hv => first | (simp [hlr]; done) | (simp [hlr]; omega) | rfl | assumption
  case hj => repeat (first | exact hset_at _ _ _ | assumption | refine (hset_ne _ _ (by first | omega | assumption)).trans ?_ | refine (hdel_ne _ (by first | omega | assumption)).trans ?_ | fail)
  case hl => first | (simp [hlr]; done) | (simp [hlr]; omega) | rfl | assumption
  case h1 => first | omega | (simp [hlr]; omega) | (simp [hlr]; done)
  case h2 => first | omega | (simp [hlr]; omega) | (simp [hlr]; done)
  intro r2 hr2
  try simp (disch := first | omega | assumption) only [go_sem, hset_none, hdel_none] at hr2
  try simp (disch := first | omega | assumption) only [hset_none, hdel_none] at hr2
  have z2 : h r2 = none ∧ r2 ≠ q ∧ r2 ≠ p := by
    rcases hr2 with rfl | hh
    · exact ⟨hr.2.2, hr.1, hr.2.1⟩
    · exact ⟨hh.2.2.2, hh.2.1, hh.2.2.1⟩
  cases next with
  | true =>
    have hYl : (rowsS S).length = S.1.length + 1 := e1
    repeat (first | (simp (maxSteps := 1000000) only [↓reduceIte, go_sem, e1]) | (simp (maxSteps := 1000000) (disch := first | omega | assumption) only [BB, e1]) | with_reducible refine Gst.now ?_ | with_reducible refine vawp_draw mixed (by kernel_rfl) ?_ | with_reducible first | refine lwV_out ?_ | refine lwV_out0 ?_ | refine lkC_out ?_ | refine And.intro (by omega) ?_ | fail)
    refine vBuildS_i bs33 ?_ ?_ ?_ ?_ ?_
    rfl
    rfl
    rfl
    rfl
    repeat (first | (simp (maxSteps := 1000000) only [↓reduceIte, go_sem]) | (simp (maxSteps := 1000000) (disch := first | omega | assumption) only [BB]) | with_reducible refine Gst.now ?_ | with_reducible refine vawp_draw mixed (by kernel_rfl) ?_ | with_reducible first | refine lwV_out ?_ | refine lwV_out0 ?_ | refine lkC_out ?_ | refine And.intro (by omega) ?_ | fail)
    refine vBuildS_i bs29 ?_ ?_ ?_ ?_ ?_
    rfl
    rfl
    rfl
    rfl
    repeat (first | (simp (maxSteps := 1000000) only [↓reduceIte, go_sem]) | (simp (maxSteps := 1000000) (disch := first | omega | assumption) only [BB]) | with_reducible refine Gst.now ?_ | with_reducible refine vawp_draw mixed (by kernel_rfl) ?_ | with_reducible first | refine lwV_out ?_ | refine lwV_out0 ?_ | refine lkC_out ?_ | refine And.intro (by omega) ?_ | fail)
    apply vApp_own_isl ap29 (by simp only [go_sem])
    case hv => first | (simp [hlr]; done) | (simp [hlr]; omega) | rfl | assumption
    case hj => repeat (first | exact hset_at _ _ _ | assumption | refine (hset_ne _ _ (by first | omega | assumption)).trans ?_ | refine (hdel_ne _ (by first | omega | assumption)).trans ?_ | fail)
    case hl => first | (simp [hlr]; done) | (simp [hlr]; omega) | rfl | assumption
    case h1 => first | omega | (simp [hlr]; omega) | (simp [hlr]; done)
    case h2 => first | omega | (simp [hlr]; omega) | (simp [hlr]; done)
    intro r3 hr3
    try simp (disch := first | omega | assumption) only [go_sem, hset_none, hdel_none] at hr3
    try simp (disch := first | omega | assumption) only [hset_none, hdel_none] at hr3
    have z3 : h r3 = none ∧ r3 ≠ q ∧ r3 ≠ p := by
      rcases hr3 with rfl | ⟨_, rfl | hh⟩
      · exact z2
      · exact ⟨hr.2.2, hr.1, hr.2.1⟩
      · exact ⟨hh.2.2.2, hh.2.1, hh.2.2.1⟩
    have e2 := getq_last (v := .isl false 0 []) hlr
    have e5 : ((rowsS S).flatMap rowC ++ [AV.isl false 0 []]).length = S.1.length + 1 + 1 := by rw [List.length_append, hlr]; rfl
    repeat (first | (simp (maxSteps := 1000000) only [↓reduceIte, go_sem, e1, e2, e5]) | (simp (maxSteps := 1000000) (disch := first | omega | assumption) only [BB, e1, e2, e5]) | with_reducible refine Gst.now ?_ | with_reducible refine vawp_draw mixed (by kernel_rfl) ?_ | with_reducible first | refine lwV_out ?_ | refine lwV_out0 ?_ | refine lkC_out ?_ | refine And.intro (by omega) ?_ | fail)
    refine vBuildS_i bs33 ?_ ?_ ?_ ?_ ?_
    rfl
    rfl
    rfl
    rfl
    repeat (first | (simp (maxSteps := 1000000) only [↓reduceIte, go_sem]) | (simp (maxSteps := 1000000) (disch := first | omega | assumption) only [BB]) | with_reducible refine Gst.now ?_ | with_reducible refine vawp_draw mixed (by kernel_rfl) ?_ | with_reducible first | refine lwV_out ?_ | refine lwV_out0 ?_ | refine lkC_out ?_ | refine And.intro (by omega) ?_ | fail)
    refine vBuildS_i bs29 ?_ ?_ ?_ ?_ ?_
    rfl
    rfl
    rfl
    rfl
    repeat (first | (simp (maxSteps := 1000000) only [↓reduceIte, go_sem]) | (simp (maxSteps := 1000000) (disch := first | omega | assumption) only [BB]) | with_reducible refine Gst.now ?_ | with_reducible refine vawp_draw mixed (by kernel_rfl) ?_ | with_reducible first | refine lwV_out ?_ | refine lwV_out0 ?_ | refine lkC_out ?_ | refine And.intro (by omega) ?_ | fail)
    with_reducible refine call_ok ?_
    refine join_u (rs := [⟨false, []⟩, ⟨false, [c]⟩]) (d := [c]) rfl rfl (by simp) (by simp) ?_
    have e6 := setV_last (v := .isl false 0 []) (w := .isl false 1 ([c].map (iv .u8))) hlr
    repeat (first | (simp (maxSteps := 1000000) only [↓reduceIte, go_sem, e1, e2, e5, e6]) | (simp (maxSteps := 1000000) (disch := first | omega | assumption) only [BB, e1, e2, e5, e6]) | with_reducible refine Gst.now ?_ | with_reducible refine vawp_draw mixed (by kernel_rfl) ?_ | with_reducible first | refine lwV_out ?_ | refine lwV_out0 ?_ | refine lkC_out ?_ | refine And.intro (by omega) ?_ | fail)
    refine hq _ _ ?_
    repeat (first | (simp (maxSteps := 1000000) only [↓reduceIte, go_sem, e1, e2, e5, e6]) | (simp (maxSteps := 1000000) (disch := first | omega | assumption) only [BB, e1, e2, e5, e6]) | with_reducible refine Gst.now ?_ | with_reducible refine vawp_draw mixed (by kernel_rfl) ?_ | with_reducible first | refine lwV_out ?_ | refine lwV_out0 ?_ | refine lkC_out ?_ | refine And.intro (by omega) ?_ | fail)
    repeat (first | (simp (maxSteps := 1000000) only [↓reduceIte, go_sem, e1, e2, e5, e6]) | (simp (maxSteps := 1000000) (disch := first | omega | assumption) only [BB, e1, e2, e5, e6]) | with_reducible refine Gst.now ?_ | with_reducible refine vawp_draw mixed (by kernel_rfl) ?_ | with_reducible first | refine lwV_out ?_ | refine lwV_out0 ?_ | refine lkC_out ?_ | refine And.intro (by omega) ?_ | fail)
    refine frk_agg2 (r := r3) (by repeat (first | exact hset_at _ _ _ | assumption | refine (hset_ne _ _ (by omega)).trans ?_ | refine (hdel_ne _ (by omega)).trans ?_)) ?_
    refine .drop p (.drop q (.now (kcast hK ?_ ?_)))
    · rw [refA_eq, putS, if_pos rfl]
      show _ = AV.agg [(.sc (.int .i64 ((sz : Nat)))), .isl false ((rowsS S).length + 1) ((rowsS (rowsS S, [c])).flatMap rowC)]
      rw [e1, show rowsS (rowsS S, [c]) = rowsS S ++ [⟨false, [c]⟩] from rfl, flat_snoc]
      exact congrArg (fun z => AV.agg [(.sc (.int .i64 ((sz : Nat)))), .isl false (S.1.length + 1 + 1) z]) e6
    · clear hr2 hr3
      funext i
      simp only [hset, hdel]
      repeat' split
      all_goals first | rfl | (subst_vars; simp_all; done)
  | false =>
    have e2 : (rowsS S).getD S.1.length default = ⟨false, S.2⟩ := getD_last
    repeat (first | (simp (maxSteps := 1000000) only [↓reduceIte, go_sem, e1, e2]) | (simp (maxSteps := 1000000) (disch := first | omega | assumption) only [BB, e1, e2]) | with_reducible refine Gst.now ?_ | with_reducible refine vawp_draw mixed (by kernel_rfl) ?_ | with_reducible first | refine lwV_out ?_ | refine lwV_out0 ?_ | refine lkC_out ?_ | refine And.intro (by omega) ?_ | fail)
    refine vBuildS_i bs33 ?_ ?_ ?_ ?_ ?_
    rfl
    rfl
    rfl
    rfl
    repeat (first | (simp (maxSteps := 1000000) only [↓reduceIte, go_sem]) | (simp (maxSteps := 1000000) (disch := first | omega | assumption) only [BB]) | with_reducible refine Gst.now ?_ | with_reducible refine vawp_draw mixed (by kernel_rfl) ?_ | with_reducible first | refine lwV_out ?_ | refine lwV_out0 ?_ | refine lkC_out ?_ | refine And.intro (by omega) ?_ | fail)
    refine vBuildS_i bs29 ?_ ?_ ?_ ?_ ?_
    rfl
    rfl
    rfl
    rfl
    repeat (first | (simp (maxSteps := 1000000) only [↓reduceIte, go_sem]) | (simp (maxSteps := 1000000) (disch := first | omega | assumption) only [BB]) | with_reducible refine Gst.now ?_ | with_reducible refine vawp_draw mixed (by kernel_rfl) ?_ | with_reducible first | refine lwV_out ?_ | refine lwV_out0 ?_ | refine lkC_out ?_ | refine And.intro (by omega) ?_ | fail)
    with_reducible refine call_ok ?_
    refine join_u (rs := [⟨false, S.2⟩, ⟨false, [c]⟩]) (d := S.2 ++ [c]) (by simp [joinR]) rfl (by simp) (by simp; omega) ?_
    have e6 := setV_rows S (.isl false (S.2 ++ [c]).length ((S.2 ++ [c]).map (iv .u8)))
    repeat (first | (simp (maxSteps := 1000000) only [↓reduceIte, go_sem, e1, e2, e6]) | (simp (maxSteps := 1000000) (disch := first | omega | assumption) only [BB, e1, e2, e6]) | with_reducible refine Gst.now ?_ | with_reducible refine vawp_draw mixed (by kernel_rfl) ?_ | with_reducible first | refine lwV_out ?_ | refine lwV_out0 ?_ | refine lkC_out ?_ | refine And.intro (by omega) ?_ | fail)
    refine hq _ _ ?_
    repeat (first | (simp (maxSteps := 1000000) only [↓reduceIte, go_sem, e1, e2, e6]) | (simp (maxSteps := 1000000) (disch := first | omega | assumption) only [BB, e1, e2, e6]) | with_reducible refine Gst.now ?_ | with_reducible refine vawp_draw mixed (by kernel_rfl) ?_ | with_reducible first | refine lwV_out ?_ | refine lwV_out0 ?_ | refine lkC_out ?_ | refine And.intro (by omega) ?_ | fail)
    repeat (first | (simp (maxSteps := 1000000) only [↓reduceIte, go_sem, e1, e2, e6]) | (simp (maxSteps := 1000000) (disch := first | omega | assumption) only [BB, e1, e2, e6]) | with_reducible refine Gst.now ?_ | with_reducible refine vawp_draw mixed (by kernel_rfl) ?_ | with_reducible first | refine lwV_out ?_ | refine lwV_out0 ?_ | refine lkC_out ?_ | refine And.intro (by omega) ?_ | fail)
    refine frk_agg2 (r := r2) (by repeat (first | exact hset_at _ _ _ | assumption | refine (hset_ne _ _ (by omega)).trans ?_ | refine (hdel_ne _ (by omega)).trans ?_)) ?_
    refine .drop p (.drop q (.now (kcast hK ?_ ?_)))
    · rw [refA_eq, putS, if_neg (by decide)]
      show _ = AV.agg [(.sc (.int .i64 ((sz : Nat)))), .isl false (S.1.length + 1) ((S.1 ++ [(⟨false, S.2 ++ [c]⟩ : RowV)]).flatMap rowC)]
      rw [flat_snoc]; rfl
    · clear hr2
      funext i
      simp only [hset, hdel]
      repeat' split
      all_goals first | rfl | (subst_vars; simp_all; done)
theorem take_snocN {xs : List Nat} {i : Nat} (hi : i < xs.length) : xs.take (i + 1) = xs.take i ++ [xs.getD i 0] := take_snocD hi
theorem dataW_len {sz : Nat} {X : List RowV} {L b : List Nat} (hL : L.length ≤ sz) (hsz : 1 ≤ sz) : (dataW sz (X, L) b).2.length ≤ sz ∧ (dataW sz (X, L) b).1.length ≤ X.length + b.length := by
  induction b generalizing X L with
  | nil => exact ⟨hL, by simp [dataW]⟩
  | cons c b ih =>
    show (dataW sz (byteW sz (X, L) c) b).2.length ≤ sz ∧ (dataW sz (byteW sz (X, L) c) b).1.length ≤ _
    unfold byteW
    split
    · have := ih (X := X ++ [⟨false, L⟩]) (L := [c]) (by simpa using hsz)
      rw [List.length_append] at this
      simp only [List.length_cons, List.length_nil] at this ⊢
      exact ⟨this.1, by omega⟩
    · rename_i h1
      have h1' : ¬ L.length = sz := h1
      have := ih (X := X) (L := L ++ [c]) (by simp; omega)
      simp only [List.length_cons]
      exact ⟨this.1, by omega⟩
theorem rdata_v {sz : Nat} {X : List RowV} {L b : List Nat} {nl : Bool} {l : Nat} (hl : l = b.length) (hX : X.length + b.length ≤ 1000000000) (hL : L.length ≤ sz) (hsz1 : 1 ≤ sz) (hsz : sz ≤ 16777216)
    (hK : K (.tup [refA sz (dataW sz (X, L) b), .agg [(.sc (.int .i64 (((placeW sz X.length L.length 1).1 : Nat)))), (.sc (.int .i64 (((placeW sz X.length L.length 1).2 : Nat))))]]) h) : VC Try.prog GL (n + 3) 14 [refA sz (X, L), .isl nl l (b.map (iv .u8))] h K := by
  refine VC_go Try.func14 rfl (by decide) Try.ntmps14 Try.results14 rfl fun Q hq hn => ?_
  subst hl
  repeat (first | (simp (maxSteps := 1000000) only [↓reduceIte, go_sem]) | (simp (maxSteps := 1000000) (disch := first | omega | assumption) only [BB]) | with_reducible refine Gst.now ?_ | with_reducible refine vawp_draw mixed (by kernel_rfl) ?_ | with_reducible first | refine lwV_out ?_ | refine lwV_out0 ?_ | refine lkC_out ?_ | refine And.intro (by omega) ?_ | fail)
  intro p hp
  try simp (disch := first | omega | assumption) only [go_sem, hset_none, hdel_none] at hp
  try simp (disch := first | omega | assumption) only [hset_none, hdel_none] at hp
  repeat (first | (simp (maxSteps := 1000000) only [↓reduceIte, go_sem]) | (simp (maxSteps := 1000000) (disch := first | omega | assumption) only [BB]) | with_reducible refine Gst.now ?_ | with_reducible refine vawp_draw mixed (by kernel_rfl) ?_ | with_reducible first | refine lwV_out ?_ | refine lwV_out0 ?_ | refine lkC_out ?_ | refine And.intro (by omega) ?_ | fail)
  intro q hq1
  try simp (disch := first | omega | assumption) only [go_sem, hset_none, hdel_none] at hq1
  try simp (disch := first | omega | assumption) only [hset_none, hdel_none] at hq1
  repeat (first | (simp (maxSteps := 1000000) only [↓reduceIte, go_sem]) | (simp (maxSteps := 1000000) (disch := first | omega | assumption) only [BB]) | with_reducible refine Gst.now ?_ | with_reducible refine vawp_draw mixed (by kernel_rfl) ?_ | with_reducible first | refine lwV_out ?_ | refine lwV_out0 ?_ | refine lkC_out ?_ | refine And.intro (by omega) ?_ | fail)
  intro r hr
  try simp (disch := first | omega | assumption) only [go_sem, hset_none, hdel_none] at hr
  try simp (disch := first | omega | assumption) only [hset_none, hdel_none] at hr
  have eA : AV.agg [(.sc (.int .i64 ((sz : Nat)))), .isl false (X.length + 1) ((rowsS (X, L)).flatMap rowC)] = refA sz (X, L) := rfl
  repeat (first | (simp (maxSteps := 1000000) only [↓reduceIte, go_sem]) | (simp (maxSteps := 1000000) (disch := first | omega | assumption) only [BB]) | with_reducible refine Gst.now ?_ | with_reducible refine vawp_draw mixed (by kernel_rfl) ?_ | with_reducible first | refine lwV_out ?_ | refine lwV_out0 ?_ | refine lkC_out ?_ | refine And.intro (by omega) ?_ | fail)
  refine call_ok (rnext_v (S := (X, L)) (c := 1) (by show X.length ≤ _; omega) hL (by decide) hsz ?_)
  generalize hpl : placeW sz X.length L.length 1 = pl at *
  repeat (first | (simp (maxSteps := 1000000) only [↓reduceIte, go_sem]) | (simp (maxSteps := 1000000) (disch := first | omega | assumption) only [BB]) | with_reducible refine Gst.now ?_ | with_reducible refine vawp_draw mixed (by kernel_rfl) ?_ | with_reducible first | refine lwV_out ?_ | refine lwV_out0 ?_ | refine lkC_out ?_ | refine And.intro (by omega) ?_ | fail)
  intro s hs1
  try simp (disch := first | omega | assumption) only [go_sem, hset_none, hdel_none] at hs1
  try simp (disch := first | omega | assumption) only [hset_none, hdel_none] at hs1
  repeat (first | (simp (maxSteps := 1000000) only [↓reduceIte, go_sem]) | (simp (maxSteps := 1000000) (disch := first | omega | assumption) only [BB]) | with_reducible refine Gst.now ?_ | with_reducible refine vawp_draw mixed (by kernel_rfl) ?_ | with_reducible first | refine lwV_out ?_ | refine lwV_out0 ?_ | refine lkC_out ?_ | refine And.intro (by omega) ?_ | fail)
  refine vawp_loop (k := b.length) (fun k ρ h1 => ∃ i : Nat, k + i = b.length ∧ ρ 1 = .isl nl b.length (b.map (iv .u8)) ∧ ρ 2 = .op p 0 ∧ ρ 4 = .op q 0 ∧ ρ 5 = .op r 0 ∧ ρ 6 = .op s 0 ∧ ρ 7 = (.sc (.int .i64 ((i : Nat)))) ∧ h1 = hset (hset (hset (hset h p (.cells 31 false [(.sc (.int .i64 ((sz : Nat)))), .isl false ((dataW sz (X, L) (b.take i)).1.length + 1) ((rowsS (dataW sz (X, L) (b.take i))).flatMap rowC)])) q (.cells 31 false [(.sc (.int .i64 (0))), .isl true 0 []])) r (.cells 37 false [(.sc (.int .i64 (0))), (.sc (.int .i64 (0)))])) s (.cells 37 false [(.sc (.int .i64 ((pl.1 : Nat)))), (.sc (.int .i64 ((pl.2 : Nat))))])) ?_ ?_
  · refine ⟨0, by omega, ?_⟩
    repeat (first | (simp (maxSteps := 1000000) only [↓reduceIte, go_sem]) | (simp (maxSteps := 1000000) (disch := first | omega | assumption) only [BB]) | with_reducible refine Gst.now ?_ | with_reducible refine vawp_draw mixed (by kernel_rfl) ?_ | with_reducible first | refine lwV_out ?_ | refine lwV_out0 ?_ | refine lkC_out ?_ | refine And.intro (by omega) ?_ | fail)
    rfl
  · rintro k ρ h1 ⟨i, hki, g1, g2, g4, g5, g6, g7, rfl⟩
    have hSl := dataW_len (sz := sz) (X := X) (L := L) (b := b.take i) hL hsz1
    have hil : (b.take i).length ≤ b.length := by rw [List.length_take]; omega
    have hbw : i < b.length → dataW sz (X, L) (b.take (i + 1)) = putS (dataW sz (X, L) (b.take i)) (b.getD i 0) ((dataW sz (X, L) (b.take i)).2.length == sz) := fun hi => by
      rw [take_snocN hi, dataW_app]
      show byteW sz _ _ = _
      unfold byteW putS rowsS
      by_cases hz : (dataW sz (X, L) (b.take i)).2.length = sz
      · rw [if_pos hz, if_pos (by rw [beq_iff_eq]; exact hz)]
      · rw [if_neg hz, if_neg (by rw [beq_iff_eq]; exact hz)]
    generalize hS : dataW sz (X, L) (b.take i) = S at *
    have e1 := rowsS_len S
    have e2 : (rowsS S).getD S.1.length default = ⟨false, S.2⟩ := getD_last
    have e3 : (S.1.length < S.1.length + 1) = True := eq_true (Nat.lt_succ_self _)
    by_cases hi : i < b.length
    · have e4 := eq_true hi
      repeat (first | (simp (maxSteps := 1000000) only [↓reduceIte, go_sem, g1, g2, g4, g5, g6, g7, e1, e2, e3, e4]) | (simp (maxSteps := 1000000) (disch := first | omega | assumption) only [BB, g1, g2, g4, g5, g6, g7, e1, e2, e3, e4]) | with_reducible refine Gst.now ?_ | with_reducible first | refine lwV_out ?_ | refine lwV_out0 ?_ | refine lkC_out ?_ | refine And.intro (by omega) ?_ | fail)
      apply vawp_quiet 18 1 mixed
      case hk => rfl
      case hok => kernel_rfl
      simp only [List.toList_toArray, List.take_succ_cons, List.take_zero]
      repeat (first | (apply vopsQ_pk; (case hd => rfl); (case h1 => simp (disch := first | omega | assumption) only [↓reduceIte, go_sem, g1, g2, g4, g5, g6, g7, e1, e2, e3, e4]); (case h2 => simp (disch := first | omega | assumption) only [↓reduceIte, go_sem, g1, g2, g4, g5, g6, g7, e1, e2, e3, e4]); (case h3 => simp (disch := first | omega | assumption) only [↓reduceIte, go_sem, g1, g2, g4, g5, g6, g7, e1, e2, e3, e4]); (case hb => simp (disch := first | omega | assumption) only [↓reduceIte, go_sem, g1, g2, g4, g5, g6, g7, e1, e2, e3, e4]); (try simp (disch := first | omega | assumption) only [↓reduceIte, go_sem, g1, g2, g4, g5, g6, g7, e1, e2, e3, e4])) | (apply vopsQ_n; (case hd => rfl); (case hq => (intro K' hk'; repeat (first | simp (maxSteps := 4000000) (disch := first | omega | assumption) only [↓reduceIte, go_sem, g1, g2, g4, g5, g6, g7, e1, e2, e3, e4] | with_reducible refine Gst.now ?_ | with_reducible refine vawp_draw mixed (by kernel_rfl) ?_ | with_reducible first | refine lwV_out ?_ | refine lwV_out0 ?_ | refine lkC_out ?_ | refine And.intro (by omega) ?_ | fail); exact hk'))) | (apply vopsQ_gt; (case hd => rfl); (case h1 => rfl); (case h2 => rfl); (case h3 => simp (disch := first | omega | assumption) only [↓reduceIte, go_sem]); (case hq => (intro K' hk'; repeat (first | simp (maxSteps := 4000000) (disch := first | omega | assumption) only [↓reduceIte, go_sem, g1, g2, g4, g5, g6, g7, e1, e2, e3, e4] | with_reducible refine Gst.now ?_ | with_reducible refine vawp_draw mixed (by kernel_rfl) ?_ | with_reducible first | refine lwV_out ?_ | refine lwV_out0 ?_ | refine lkC_out ?_ | refine And.intro (by omega) ?_ | fail); exact hk'))) | (apply vopsQ_gf'; (case hd => rfl); (case h1 => rfl); (case h2 => rfl); (case h3 => simp (disch := first | omega | assumption) only [↓reduceIte, go_sem, g1, g2, g4, g5, g6, g7, e1, e2, e3, e4])) | (apply vopsQ_gj; (case hd => rfl); (case h1 => rfl); (case h2 => rfl); (case h3 => simp (disch := first | omega | assumption) only [↓reduceIte, go_sem, g1, g2, g4, g5, g6, g7, e1, e2, e3, e4])) | (apply vopsQ_gpk; (case hd => rfl); (case h1 => rfl); (case h2 => rfl); (case h3 => simp (disch := first | omega | assumption) only [↓reduceIte, go_sem, g1, g2, g4, g5, g6, g7, e1, e2, e3, e4]); (case k1 => simp (disch := first | omega | assumption) only [↓reduceIte, go_sem, g1, g2, g4, g5, g6, g7, e1, e2, e3, e4]); (case k2 => simp (disch := first | omega | assumption) only [↓reduceIte, go_sem, g1, g2, g4, g5, g6, g7, e1, e2, e3, e4]); (case k3 => simp (disch := first | omega | assumption) only [↓reduceIte, go_sem, g1, g2, g4, g5, g6, g7, e1, e2, e3, e4]); (case hb => (intro hc; (try simp (disch := first | omega | assumption) only [↓reduceIte, go_sem, g1, g2, g4, g5, g6, g7, e1, e2, e3, e4] at hc); simp (disch := first | omega | assumption) only [↓reduceIte, go_sem, hc, g1, g2, g4, g5, g6, g7, e1, e2, e3, e4])); (try simp (disch := first | omega | assumption) only [↓reduceIte, go_sem, g1, g2, g4, g5, g6, g7, e1, e2, e3, e4])) | (apply vopsQ_gu; (case hd => rfl); (case h1 => rfl); (case h2 => rfl); (case h3 => simp (disch := first | omega | assumption) only [↓reduceIte, go_sem, g1, g2, g4, g5, g6, g7, e1, e2, e3, e4]); (case hq => (intro hc K' hk'; (try simp (disch := first | omega | assumption) only [↓reduceIte, go_sem, g1, g2, g4, g5, g6, g7, e1, e2, e3, e4] at hc); repeat (first | simp (maxSteps := 4000000) (disch := first | omega | assumption) only [↓reduceIte, go_sem, hc, g1, g2, g4, g5, g6, g7, e1, e2, e3, e4] | with_reducible refine Gst.now ?_ | with_reducible refine vawp_draw mixed (by kernel_rfl) ?_ | with_reducible first | refine lwV_out ?_ | refine lwV_out0 ?_ | refine lkC_out ?_ | refine And.intro (by omega) ?_ | fail); exact hk')); (try simp (disch := first | omega | assumption) only [↓reduceIte, go_sem, g1, g2, g4, g5, g6, g7, e1, e2, e3, e4])) | fail)
      first | (apply vopsQ_n; (case hd => rfl)) | (apply vopsQ_gt; (case hd => rfl); (case h1 => rfl); (case h2 => rfl); (case h3 => simp (disch := first | omega | assumption) only [↓reduceIte, go_sem]))
      case hq => (intro K' hk'; repeat (first | simp (maxSteps := 4000000) (disch := first | omega | assumption) only [↓reduceIte, go_sem] | with_reducible refine Gst.now ?_ | with_reducible refine vawp_draw mixed (by kernel_rfl) ?_ | with_reducible first | refine lwV_out ?_ | refine lwV_out0 ?_ | refine lkC_out ?_ | refine And.intro (by omega) ?_ | fail); refine call_ok ?_; refine rput_v (S := S) (by omega) (by omega) ?_; exact hk')
      repeat (first | (apply vopsQ_pk; (case hd => rfl); (case h1 => simp (disch := first | omega | assumption) only [↓reduceIte, go_sem, g1, g2, g4, g5, g6, g7, e1, e2, e3, e4]); (case h2 => simp (disch := first | omega | assumption) only [↓reduceIte, go_sem, g1, g2, g4, g5, g6, g7, e1, e2, e3, e4]); (case h3 => simp (disch := first | omega | assumption) only [↓reduceIte, go_sem, g1, g2, g4, g5, g6, g7, e1, e2, e3, e4]); (case hb => simp (disch := first | omega | assumption) only [↓reduceIte, go_sem, g1, g2, g4, g5, g6, g7, e1, e2, e3, e4]); (try simp (disch := first | omega | assumption) only [↓reduceIte, go_sem, g1, g2, g4, g5, g6, g7, e1, e2, e3, e4])) | (apply vopsQ_n; (case hd => rfl); (case hq => (intro K' hk'; repeat (first | simp (maxSteps := 4000000) (disch := first | omega | assumption) only [↓reduceIte, go_sem, g1, g2, g4, g5, g6, g7, e1, e2, e3, e4] | with_reducible refine Gst.now ?_ | with_reducible refine vawp_draw mixed (by kernel_rfl) ?_ | with_reducible first | refine lwV_out ?_ | refine lwV_out0 ?_ | refine lkC_out ?_ | refine And.intro (by omega) ?_ | fail); exact hk'))) | (apply vopsQ_gt; (case hd => rfl); (case h1 => rfl); (case h2 => rfl); (case h3 => simp (disch := first | omega | assumption) only [↓reduceIte, go_sem]); (case hq => (intro K' hk'; repeat (first | simp (maxSteps := 4000000) (disch := first | omega | assumption) only [↓reduceIte, go_sem, g1, g2, g4, g5, g6, g7, e1, e2, e3, e4] | with_reducible refine Gst.now ?_ | with_reducible refine vawp_draw mixed (by kernel_rfl) ?_ | with_reducible first | refine lwV_out ?_ | refine lwV_out0 ?_ | refine lkC_out ?_ | refine And.intro (by omega) ?_ | fail); exact hk'))) | (apply vopsQ_gf'; (case hd => rfl); (case h1 => rfl); (case h2 => rfl); (case h3 => simp (disch := first | omega | assumption) only [↓reduceIte, go_sem, g1, g2, g4, g5, g6, g7, e1, e2, e3, e4])) | (apply vopsQ_gj; (case hd => rfl); (case h1 => rfl); (case h2 => rfl); (case h3 => simp (disch := first | omega | assumption) only [↓reduceIte, go_sem, g1, g2, g4, g5, g6, g7, e1, e2, e3, e4])) | (apply vopsQ_gpk; (case hd => rfl); (case h1 => rfl); (case h2 => rfl); (case h3 => simp (disch := first | omega | assumption) only [↓reduceIte, go_sem, g1, g2, g4, g5, g6, g7, e1, e2, e3, e4]); (case k1 => simp (disch := first | omega | assumption) only [↓reduceIte, go_sem, g1, g2, g4, g5, g6, g7, e1, e2, e3, e4]); (case k2 => simp (disch := first | omega | assumption) only [↓reduceIte, go_sem, g1, g2, g4, g5, g6, g7, e1, e2, e3, e4]); (case k3 => simp (disch := first | omega | assumption) only [↓reduceIte, go_sem, g1, g2, g4, g5, g6, g7, e1, e2, e3, e4]); (case hb => (intro hc; (try simp (disch := first | omega | assumption) only [↓reduceIte, go_sem, g1, g2, g4, g5, g6, g7, e1, e2, e3, e4] at hc); simp (disch := first | omega | assumption) only [↓reduceIte, go_sem, hc, g1, g2, g4, g5, g6, g7, e1, e2, e3, e4])); (try simp (disch := first | omega | assumption) only [↓reduceIte, go_sem, g1, g2, g4, g5, g6, g7, e1, e2, e3, e4])) | (apply vopsQ_gu; (case hd => rfl); (case h1 => rfl); (case h2 => rfl); (case h3 => simp (disch := first | omega | assumption) only [↓reduceIte, go_sem, g1, g2, g4, g5, g6, g7, e1, e2, e3, e4]); (case hq => (intro hc K' hk'; (try simp (disch := first | omega | assumption) only [↓reduceIte, go_sem, g1, g2, g4, g5, g6, g7, e1, e2, e3, e4] at hc); repeat (first | simp (maxSteps := 4000000) (disch := first | omega | assumption) only [↓reduceIte, go_sem, hc, g1, g2, g4, g5, g6, g7, e1, e2, e3, e4] | with_reducible refine Gst.now ?_ | with_reducible refine vawp_draw mixed (by kernel_rfl) ?_ | with_reducible first | refine lwV_out ?_ | refine lwV_out0 ?_ | refine lkC_out ?_ | refine And.intro (by omega) ?_ | fail); exact hk')); (try simp (disch := first | omega | assumption) only [↓reduceIte, go_sem, g1, g2, g4, g5, g6, g7, e1, e2, e3, e4])) | fail)
      simp only [vopsQ_nil]
      apply vany_one 18
      case hr => kernel_rfl
      case ho => rfl
      repeat (first | (simp (maxSteps := 1000000) only [↓reduceIte, go_sem, g1, g2, g4, g5, g6, g7, e1, e2, e3, e4]) | (simp (maxSteps := 1000000) (disch := first | omega | assumption) only [BB, g1, g2, g4, g5, g6, g7, e1, e2, e3, e4]) | with_reducible first | refine lwV_out ?_ | refine lwV_out0 ?_ | refine lkC_out ?_ | refine And.intro (by omega) ?_ | fail)
      refine vany_end (by kernel_rfl) ?_
      repeat (first | (simp (maxSteps := 1000000) only [↓reduceIte, go_sem, g1, g2, g4, g5, g6, g7, e1, e2, e3, e4]) | (simp (maxSteps := 1000000) (disch := first | omega | assumption) only [BB, g1, g2, g4, g5, g6, g7, e1, e2, e3, e4]) | with_reducible refine Gst.now ?_ | with_reducible refine vawp_draw mixed (by kernel_rfl) ?_ | with_reducible first | refine lwV_out ?_ | refine lwV_out0 ?_ | refine lkC_out ?_ | refine And.intro (by omega) ?_ | fail)
      refine ⟨k - 1, by omega, i + 1, by omega, ?_⟩
      rw [hbw hi]
      repeat (first | (simp (maxSteps := 1000000) only [↓reduceIte, go_sem, g1, g2, g4, g5, g6, g7, e1, e2, e3, e4]) | (simp (maxSteps := 1000000) (disch := first | omega | assumption) only [BB, g1, g2, g4, g5, g6, g7, e1, e2, e3, e4]) | with_reducible refine Gst.now ?_ | with_reducible refine vawp_draw mixed (by kernel_rfl) ?_ | with_reducible first | refine lwV_out ?_ | refine lwV_out0 ?_ | refine lkC_out ?_ | refine And.intro (by omega) ?_ | fail)
      rw [hset_comm (show p ≠ s by omega), hset_comm (show p ≠ r by omega), hset_comm (show p ≠ q by omega), hset_hset]
    · have e4 := eq_false hi
      have hie : i = b.length := by omega
      subst hie
      rw [List.take_length] at *
      repeat (first | (simp (maxSteps := 1000000) only [↓reduceIte, go_sem, g1, g2, g4, g5, g6, g7, e1, e2, e3, e4]) | (simp (maxSteps := 1000000) (disch := first | omega | assumption) only [BB, g1, g2, g4, g5, g6, g7, e1, e2, e3, e4]) | with_reducible refine Gst.now ?_ | with_reducible first | refine lwV_out ?_ | refine lwV_out0 ?_ | refine lkC_out ?_ | refine And.intro (by omega) ?_ | fail)
      refine vawp_split [0, 1] [2, 3] (fun h' => blkV h' s = some (37, [(.sc (.int .i64 ((pl.1 : Nat)))), (.sc (.int .i64 ((pl.2 : Nat))))]) ∧ blkV h' p = some (31, [(.sc (.int .i64 ((sz : Nat)))), .isl false (S.1.length + 1) ((rowsS S).flatMap rowC)])) mixed (by kernel_rfl) ?_ ?_
      · exact ⟨blkV_set, by rw [blkV_nset (by omega), blkV_nset (by omega), blkV_nset (by omega)]; exact blkV_set⟩
      simp only [pickO_cons, pickO_nil, List.getElem?_toArray, List.getElem?_cons_zero, List.getElem?_cons_succ]
      repeat (first | (apply vopsP_n; (case hd => rfl); (case hq => (intro h' K' hI' hk'; repeat (first | simp (maxSteps := 4000000) (disch := first | omega | assumption) only [↓reduceIte, go_sem, hI', g1, g2, g4, g5, g6, g7, e1, e2, e3, e4] | with_reducible refine Gst.now ?_ | with_reducible refine vawp_draw mixed (by kernel_rfl) ?_ | with_reducible first | refine lwV_out ?_ | refine lwV_out0 ?_ | refine lkC_out ?_ | refine And.intro (by omega) ?_ | fail); exact hk'))) | fail)
      simp only [vopsP_nil]
      first | (apply vopsI_n; (case hd => rfl)) | apply vopsI_0
      repeat (first | (simp (maxSteps := 1000000) only [↓reduceIte, go_sem, g1, g2, g4, g5, g6, g7, e1, e2, e3, e4]) | (simp (maxSteps := 1000000) (disch := first | omega | assumption) only [BB, g1, g2, g4, g5, g6, g7, e1, e2, e3, e4]) | with_reducible refine Gst.now ?_ | with_reducible refine vawp_draw mixed (by kernel_rfl) ?_ | with_reducible first | refine lwV_out ?_ | refine lwV_out0 ?_ | refine lkC_out ?_ | refine And.intro (by omega) ?_ | fail)
      first | (apply vopsI_n; (case hd => rfl)) | apply vopsI_0
      repeat (first | (simp (maxSteps := 1000000) only [↓reduceIte, go_sem, g1, g2, g4, g5, g6, g7, e1, e2, e3, e4]) | (simp (maxSteps := 1000000) (disch := first | omega | assumption) only [BB, g1, g2, g4, g5, g6, g7, e1, e2, e3, e4]) | with_reducible refine Gst.now ?_ | with_reducible refine vawp_draw mixed (by kernel_rfl) ?_ | with_reducible first | refine lwV_out ?_ | refine lwV_out0 ?_ | refine lkC_out ?_ | refine And.intro (by omega) ?_ | fail)
      simp only [vopsI_nil]
      repeat (first | (simp (maxSteps := 1000000) only [↓reduceIte, go_sem, g1, g2, g4, g5, g6, g7, e1, e2, e3, e4]) | (simp (maxSteps := 1000000) (disch := first | omega | assumption) only [BB, g1, g2, g4, g5, g6, g7, e1, e2, e3, e4]) | with_reducible refine Gst.now ?_ | with_reducible refine vawp_draw mixed (by kernel_rfl) ?_ | with_reducible first | refine lwV_out ?_ | refine lwV_out0 ?_ | refine lkC_out ?_ | refine And.intro (by omega) ?_ | fail)
      refine hq _ _ ?_
      repeat (first | (simp (maxSteps := 1000000) only [↓reduceIte, go_sem, g1, g2, g4, g5, g6, g7, e1, e2, e3, e4]) | (simp (maxSteps := 1000000) (disch := first | omega | assumption) only [BB, g1, g2, g4, g5, g6, g7, e1, e2, e3, e4]) | with_reducible refine Gst.now ?_ | with_reducible refine vawp_draw mixed (by kernel_rfl) ?_ | with_reducible first | refine lwV_out ?_ | refine lwV_out0 ?_ | refine lkC_out ?_ | refine And.intro (by omega) ?_ | fail)
      refine .drop p (.drop q (.drop r (.drop s (.now (kcast hK ?_ ?_)))))
      · rw [hS]; rfl
      · funext i
        simp only [hset, hdel]
        repeat' split
        all_goals first | rfl | (subst_vars; simp_all; done)
def recS (nx : Bool) (X : List RowV) (L b : List Nat) (i : Nat) : List RowV × List Nat := if nx = true ∧ 0 < i then (rowsS (X, L), b.take i) else (X, L ++ b.take i)
theorem recS_0 (nx : Bool) (X : List RowV) (L b : List Nat) : recS nx X L b 0 = (X, L) := by simp [recS]
theorem recS_1 (nx : Bool) (X : List RowV) (L b : List Nat) (hb : 0 < b.length) : recS nx X L b 1 = putS (X, L) (b.getD 0 0) nx := by
  unfold recS putS
  rw [take_snocN hb]
  cases nx <;> simp
theorem recS_s (nx : Bool) (X : List RowV) (L b : List Nat) (i : Nat) (hi : i < b.length) (h0 : i ≠ 0) : recS nx X L b (i + 1) = putS (recS nx X L b i) (b.getD i 0) false := by
  unfold recS putS
  rw [take_snocN hi]
  cases nx
  · simp
  · simp [Nat.pos_of_ne_zero h0]
theorem recS_n (sz : Nat) (X : List RowV) (L b : List Nat) (hb : 0 < b.length) : recS (decide (sz - L.length < b.length)) X L b b.length = layW sz X L b := by
  unfold recS layW
  rw [List.take_length]
  by_cases h : sz - L.length < b.length
  · rw [if_pos ⟨decide_eq_true h, hb⟩, if_pos h]; rfl
  · rw [if_neg (by simp [h]), if_neg h]
theorem recS_len (sz : Nat) (X : List RowV) (L b : List Nat) (i : Nat) (hL : L.length ≤ sz) (hb : b.length ≤ sz) : (recS (decide (sz - L.length < b.length)) X L b i).2.length ≤ sz ∧ (recS (decide (sz - L.length < b.length)) X L b i).1.length ≤ X.length + 1 := by
  unfold recS
  split
  · refine ⟨by rw [List.length_take]; omega, by rw [rowsS_len]; simp⟩
  · rename_i h
    rw [List.length_append, List.length_take]
    by_cases h0 : i = 0
    · subst h0; simp; omega
    · have : ¬ sz - L.length < b.length := fun hh => h ⟨decide_eq_true hh, by omega⟩
      exact ⟨by omega, by show X.length ≤ _; omega⟩
theorem rrec_v {sz : Nat} {X : List RowV} {L b : List Nat} {nl : Bool} {l : Nat} (hl : l = b.length) (hX : X.length ≤ 100000000) (hbl : b.length ≤ 140737488355328) (hL : L.length ≤ sz) (hsz : sz ≤ 16777216)
    (hK0 : ¬ (0 < b.length ∧ b.length ≤ sz) → K (.tup [refA sz (X, L), .agg [(.sc (.int .i64 (0))), (.sc (.int .i64 (0)))], (.sc (.int .i64 (50)))]) h)
    (hK1 : 0 < b.length → b.length ≤ sz → K (.tup [refA sz (layW sz X L b), .agg [(.sc (.int .i64 (((placeW sz X.length L.length b.length).1 : Nat)))), (.sc (.int .i64 (((placeW sz X.length L.length b.length).2 : Nat))))], (.sc (.int .i64 (0)))]) h) : VC Try.prog GL (n + 3) 12 [refA sz (X, L), .isl nl l (b.map (iv .u8))] h K := by
  refine VC_go Try.func12 rfl (by decide) Try.ntmps12 Try.results12 rfl fun Q hq hn => ?_
  subst hl
  repeat (first | (simp (maxSteps := 1000000) only [↓reduceIte, go_sem]) | (simp (maxSteps := 1000000) (disch := first | omega | assumption) only [BB]) | with_reducible refine Gst.now ?_ | with_reducible refine vawp_draw mixed (by kernel_rfl) ?_ | with_reducible first | refine lwV_out ?_ | refine lwV_out0 ?_ | refine lkC_out ?_ | refine And.intro (by omega) ?_ | fail)
  intro p hp
  try simp (disch := first | omega | assumption) only [go_sem, hset_none, hdel_none] at hp
  try simp (disch := first | omega | assumption) only [hset_none, hdel_none] at hp
  repeat (first | (simp (maxSteps := 1000000) only [↓reduceIte, go_sem]) | (simp (maxSteps := 1000000) (disch := first | omega | assumption) only [BB]) | with_reducible refine Gst.now ?_ | with_reducible refine vawp_draw mixed (by kernel_rfl) ?_ | with_reducible first | refine lwV_out ?_ | refine lwV_out0 ?_ | refine lkC_out ?_ | refine And.intro (by omega) ?_ | fail)
  intro q hq1
  try simp (disch := first | omega | assumption) only [go_sem, hset_none, hdel_none] at hq1
  try simp (disch := first | omega | assumption) only [hset_none, hdel_none] at hq1
  repeat (first | (simp (maxSteps := 1000000) only [↓reduceIte, go_sem]) | (simp (maxSteps := 1000000) (disch := first | omega | assumption) only [BB]) | with_reducible refine Gst.now ?_ | with_reducible refine vawp_draw mixed (by kernel_rfl) ?_ | with_reducible first | refine lwV_out ?_ | refine lwV_out0 ?_ | refine lkC_out ?_ | refine And.intro (by omega) ?_ | fail)
  intro r hr
  try simp (disch := first | omega | assumption) only [go_sem, hset_none, hdel_none] at hr
  try simp (disch := first | omega | assumption) only [hset_none, hdel_none] at hr
  by_cases h0 : b.length < 1
  · have e1 := decide_eq_true h0
    repeat (first | (simp (maxSteps := 1000000) only [↓reduceIte, go_sem, e1]) | (simp (maxSteps := 1000000) (disch := first | omega | assumption) only [BB, e1]) | with_reducible refine Gst.now ?_ | with_reducible refine vawp_draw mixed (by kernel_rfl) ?_ | with_reducible first | refine lwV_out ?_ | refine lwV_out0 ?_ | refine lkC_out ?_ | refine And.intro (by omega) ?_ | fail)
    refine hq _ _ ?_
    repeat (first | (simp (maxSteps := 1000000) only [↓reduceIte, go_sem, e1]) | (simp (maxSteps := 1000000) (disch := first | omega | assumption) only [BB, e1]) | with_reducible refine Gst.now ?_ | with_reducible refine vawp_draw mixed (by kernel_rfl) ?_ | with_reducible first | refine lwV_out ?_ | refine lwV_out0 ?_ | refine lkC_out ?_ | refine And.intro (by omega) ?_ | fail)
    refine .drop p (.drop q (.drop r (.now (kcast (hK0 (by omega)) rfl ?_))))
    funext i
    simp only [hset, hdel]
    repeat' split
    all_goals first | rfl | (subst_vars; simp_all; done)
  have e1 := decide_eq_false h0
  by_cases h1 : sz < b.length
  · have e2 := decide_eq_true h1
    repeat (first | (simp (maxSteps := 1000000) only [↓reduceIte, go_sem, e1, e2]) | (simp (maxSteps := 1000000) (disch := first | omega | assumption) only [BB, e1, e2]) | with_reducible refine Gst.now ?_ | with_reducible refine vawp_draw mixed (by kernel_rfl) ?_ | with_reducible first | refine lwV_out ?_ | refine lwV_out0 ?_ | refine lkC_out ?_ | refine And.intro (by omega) ?_ | fail)
    refine hq _ _ ?_
    repeat (first | (simp (maxSteps := 1000000) only [↓reduceIte, go_sem, e1, e2]) | (simp (maxSteps := 1000000) (disch := first | omega | assumption) only [BB, e1, e2]) | with_reducible refine Gst.now ?_ | with_reducible refine vawp_draw mixed (by kernel_rfl) ?_ | with_reducible first | refine lwV_out ?_ | refine lwV_out0 ?_ | refine lkC_out ?_ | refine And.intro (by omega) ?_ | fail)
    refine .drop p (.drop q (.drop r (.now (kcast (hK0 (by omega)) rfl ?_))))
    funext i
    simp only [hset, hdel]
    repeat' split
    all_goals first | rfl | (subst_vars; simp_all; done)
  have e2 := decide_eq_false h1
  repeat (first | (simp (maxSteps := 1000000) only [↓reduceIte, go_sem, e1, e2]) | (simp (maxSteps := 1000000) (disch := first | omega | assumption) only [BB, e1, e2]) | with_reducible refine Gst.now ?_ | with_reducible refine vawp_draw mixed (by kernel_rfl) ?_ | with_reducible first | refine lwV_out ?_ | refine lwV_out0 ?_ | refine lkC_out ?_ | refine And.intro (by omega) ?_ | fail)
  refine call_ok (rnext_v (S := (X, L)) (c := b.length) (by show X.length ≤ _; omega) hL (by omega) hsz ?_)
  have hnx : ((placeW sz X.length L.length b.length).1 == X.length + 1) = decide (sz - L.length < b.length) := by
    unfold placeW
    by_cases h : sz - L.length < b.length
    · rw [if_pos h, decide_eq_true h]; exact beq_self_eq_true _
    · rw [if_neg h, decide_eq_false h]; exact beq_false_of_ne (by show X.length ≠ _; omega)
  have hn := recS_n sz X L b (by omega)
  have hrl := fun i => recS_len sz X L b i hL (by omega)
  generalize hpl : placeW sz X.length L.length b.length = pl at *
  generalize hnxx : decide (sz - L.length < b.length) = nx at *
  repeat (first | (simp (maxSteps := 1000000) only [↓reduceIte, go_sem, e1, e2]) | (simp (maxSteps := 1000000) (disch := first | omega | assumption) only [BB, e1, e2]) | with_reducible refine Gst.now ?_ | with_reducible refine vawp_draw mixed (by kernel_rfl) ?_ | with_reducible first | refine lwV_out ?_ | refine lwV_out0 ?_ | refine lkC_out ?_ | refine And.intro (by omega) ?_ | fail)
  intro s hs1
  try simp (disch := first | omega | assumption) only [go_sem, hset_none, hdel_none] at hs1
  try simp (disch := first | omega | assumption) only [hset_none, hdel_none] at hs1
  repeat (first | (simp (maxSteps := 1000000) only [↓reduceIte, go_sem, e1, e2]) | (simp (maxSteps := 1000000) (disch := first | omega | assumption) only [BB, e1, e2]) | with_reducible refine Gst.now ?_ | with_reducible refine vawp_draw mixed (by kernel_rfl) ?_ | with_reducible first | refine lwV_out ?_ | refine lwV_out0 ?_ | refine lkC_out ?_ | refine And.intro (by omega) ?_ | fail)
  refine vawp_loop (k := b.length) (fun k ρ h1 => ∃ i : Nat, k + i = b.length ∧ ρ 1 = .isl nl b.length (b.map (iv .u8)) ∧ ρ 2 = .op p 0 ∧ ρ 4 = .op q 0 ∧ ρ 5 = .op r 0 ∧ ρ 7 = .op s 0 ∧ ρ 8 = (.sc (.int .i64 ((i : Nat)))) ∧ h1 = hset (hset (hset (hset h p (.cells 31 false [(.sc (.int .i64 ((sz : Nat)))), .isl false ((recS nx X L b i).1.length + 1) ((rowsS (recS nx X L b i)).flatMap rowC)])) q (.cells 31 false [(.sc (.int .i64 (0))), .isl true 0 []])) r (.cells 37 false [(.sc (.int .i64 (0))), (.sc (.int .i64 (0)))])) s (.cells 37 false [(.sc (.int .i64 ((pl.1 : Nat)))), (.sc (.int .i64 ((pl.2 : Nat))))])) ?_ ?_
  · refine ⟨0, by omega, ?_⟩
    rw [recS_0]
    repeat (first | (simp (maxSteps := 1000000) only [↓reduceIte, go_sem, e1, e2]) | (simp (maxSteps := 1000000) (disch := first | omega | assumption) only [BB, e1, e2]) | with_reducible refine Gst.now ?_ | with_reducible refine vawp_draw mixed (by kernel_rfl) ?_ | with_reducible first | refine lwV_out ?_ | refine lwV_out0 ?_ | refine lkC_out ?_ | refine And.intro (by omega) ?_ | fail)
  · rintro k ρ h1 ⟨i, hki, g1, g2, g4, g5, g7, g8, rfl⟩
    have hSl := hrl i
    by_cases hi : i < b.length
    · have e4 := eq_true hi
      by_cases hi0 : i = 0
      · subst hi0
        rw [recS_0] at *
        have hr1 := recS_1 nx X L b (by omega)
        have e5 := rowsS_len (X, L)
        repeat (first | (simp (maxSteps := 1000000) only [↓reduceIte, go_sem, e1, e2, g1, g2, g4, g5, g7, g8, e4, e5]) | (simp (maxSteps := 1000000) (disch := first | omega | assumption) only [BB, e1, e2, g1, g2, g4, g5, g7, g8, e4, e5]) | with_reducible refine Gst.now ?_ | with_reducible first | refine lwV_out ?_ | refine lwV_out0 ?_ | refine lkC_out ?_ | refine And.intro (by omega) ?_ | fail)
        apply vawp_quiet 16 1 mixed
        case hk => rfl
        case hok => kernel_rfl
        simp only [List.toList_toArray, List.take_succ_cons, List.take_zero]
        repeat (first | (apply vopsQ_pk; (case hd => rfl); (case h1 => simp (disch := first | omega | assumption) only [↓reduceIte, go_sem, e1, e2, g1, g2, g4, g5, g7, g8, e4, e5]); (case h2 => simp (disch := first | omega | assumption) only [↓reduceIte, go_sem, e1, e2, g1, g2, g4, g5, g7, g8, e4, e5]); (case h3 => simp (disch := first | omega | assumption) only [↓reduceIte, go_sem, e1, e2, g1, g2, g4, g5, g7, g8, e4, e5]); (case hb => simp (disch := first | omega | assumption) only [↓reduceIte, go_sem, e1, e2, g1, g2, g4, g5, g7, g8, e4, e5]); (try simp (disch := first | omega | assumption) only [↓reduceIte, go_sem, e1, e2, g1, g2, g4, g5, g7, g8, e4, e5])) | (apply vopsQ_n; (case hd => rfl); (case hq => (intro K' hk'; repeat (first | simp (maxSteps := 4000000) (disch := first | omega | assumption) only [↓reduceIte, go_sem, e1, e2, g1, g2, g4, g5, g7, g8, e4, e5] | with_reducible refine Gst.now ?_ | with_reducible refine vawp_draw mixed (by kernel_rfl) ?_ | with_reducible first | refine lwV_out ?_ | refine lwV_out0 ?_ | refine lkC_out ?_ | refine And.intro (by omega) ?_ | fail); exact hk'))) | (apply vopsQ_gt; (case hd => rfl); (case h1 => rfl); (case h2 => rfl); (case h3 => simp (disch := first | omega | assumption) only [↓reduceIte, go_sem]); (case hq => (intro K' hk'; repeat (first | simp (maxSteps := 4000000) (disch := first | omega | assumption) only [↓reduceIte, go_sem, e1, e2, g1, g2, g4, g5, g7, g8, e4, e5] | with_reducible refine Gst.now ?_ | with_reducible refine vawp_draw mixed (by kernel_rfl) ?_ | with_reducible first | refine lwV_out ?_ | refine lwV_out0 ?_ | refine lkC_out ?_ | refine And.intro (by omega) ?_ | fail); exact hk'))) | (apply vopsQ_gf'; (case hd => rfl); (case h1 => rfl); (case h2 => rfl); (case h3 => simp (disch := first | omega | assumption) only [↓reduceIte, go_sem, e1, e2, g1, g2, g4, g5, g7, g8, e4, e5])) | (apply vopsQ_gj; (case hd => rfl); (case h1 => rfl); (case h2 => rfl); (case h3 => simp (disch := first | omega | assumption) only [↓reduceIte, go_sem, e1, e2, g1, g2, g4, g5, g7, g8, e4, e5])) | (apply vopsQ_gpk; (case hd => rfl); (case h1 => rfl); (case h2 => rfl); (case h3 => simp (disch := first | omega | assumption) only [↓reduceIte, go_sem, e1, e2, g1, g2, g4, g5, g7, g8, e4, e5]); (case k1 => simp (disch := first | omega | assumption) only [↓reduceIte, go_sem, e1, e2, g1, g2, g4, g5, g7, g8, e4, e5]); (case k2 => simp (disch := first | omega | assumption) only [↓reduceIte, go_sem, e1, e2, g1, g2, g4, g5, g7, g8, e4, e5]); (case k3 => simp (disch := first | omega | assumption) only [↓reduceIte, go_sem, e1, e2, g1, g2, g4, g5, g7, g8, e4, e5]); (case hb => (intro hc; (try simp (disch := first | omega | assumption) only [↓reduceIte, go_sem, e1, e2, g1, g2, g4, g5, g7, g8, e4, e5] at hc); simp (disch := first | omega | assumption) only [↓reduceIte, go_sem, hc, e1, e2, g1, g2, g4, g5, g7, g8, e4, e5])); (try simp (disch := first | omega | assumption) only [↓reduceIte, go_sem, e1, e2, g1, g2, g4, g5, g7, g8, e4, e5])) | (apply vopsQ_gu; (case hd => rfl); (case h1 => rfl); (case h2 => rfl); (case h3 => simp (disch := first | omega | assumption) only [↓reduceIte, go_sem, e1, e2, g1, g2, g4, g5, g7, g8, e4, e5]); (case hq => (intro hc K' hk'; (try simp (disch := first | omega | assumption) only [↓reduceIte, go_sem, e1, e2, g1, g2, g4, g5, g7, g8, e4, e5] at hc); repeat (first | simp (maxSteps := 4000000) (disch := first | omega | assumption) only [↓reduceIte, go_sem, hc, e1, e2, g1, g2, g4, g5, g7, g8, e4, e5] | with_reducible refine Gst.now ?_ | with_reducible refine vawp_draw mixed (by kernel_rfl) ?_ | with_reducible first | refine lwV_out ?_ | refine lwV_out0 ?_ | refine lkC_out ?_ | refine And.intro (by omega) ?_ | fail); exact hk')); (try simp (disch := first | omega | assumption) only [↓reduceIte, go_sem, e1, e2, g1, g2, g4, g5, g7, g8, e4, e5])) | fail)
        first | (apply vopsQ_n; (case hd => rfl)) | (apply vopsQ_gt; (case hd => rfl); (case h1 => rfl); (case h2 => rfl); (case h3 => simp (disch := first | omega | assumption) only [↓reduceIte, go_sem]))
        case hq => (intro K' hk'; repeat (first | simp (maxSteps := 4000000) (disch := first | omega | assumption) only [↓reduceIte, go_sem] | with_reducible refine Gst.now ?_ | with_reducible refine vawp_draw mixed (by kernel_rfl) ?_ | with_reducible first | refine lwV_out ?_ | refine lwV_out0 ?_ | refine lkC_out ?_ | refine And.intro (by omega) ?_ | fail); refine call_ok ?_; refine rput_v (S := (X, L)) (by omega) (by omega) ?_; exact hk')
        repeat (first | (apply vopsQ_pk; (case hd => rfl); (case h1 => simp (disch := first | omega | assumption) only [↓reduceIte, go_sem, e1, e2, g1, g2, g4, g5, g7, g8, e4, e5]); (case h2 => simp (disch := first | omega | assumption) only [↓reduceIte, go_sem, e1, e2, g1, g2, g4, g5, g7, g8, e4, e5]); (case h3 => simp (disch := first | omega | assumption) only [↓reduceIte, go_sem, e1, e2, g1, g2, g4, g5, g7, g8, e4, e5]); (case hb => simp (disch := first | omega | assumption) only [↓reduceIte, go_sem, e1, e2, g1, g2, g4, g5, g7, g8, e4, e5]); (try simp (disch := first | omega | assumption) only [↓reduceIte, go_sem, e1, e2, g1, g2, g4, g5, g7, g8, e4, e5])) | (apply vopsQ_n; (case hd => rfl); (case hq => (intro K' hk'; repeat (first | simp (maxSteps := 4000000) (disch := first | omega | assumption) only [↓reduceIte, go_sem, e1, e2, g1, g2, g4, g5, g7, g8, e4, e5] | with_reducible refine Gst.now ?_ | with_reducible refine vawp_draw mixed (by kernel_rfl) ?_ | with_reducible first | refine lwV_out ?_ | refine lwV_out0 ?_ | refine lkC_out ?_ | refine And.intro (by omega) ?_ | fail); exact hk'))) | (apply vopsQ_gt; (case hd => rfl); (case h1 => rfl); (case h2 => rfl); (case h3 => simp (disch := first | omega | assumption) only [↓reduceIte, go_sem]); (case hq => (intro K' hk'; repeat (first | simp (maxSteps := 4000000) (disch := first | omega | assumption) only [↓reduceIte, go_sem, e1, e2, g1, g2, g4, g5, g7, g8, e4, e5] | with_reducible refine Gst.now ?_ | with_reducible refine vawp_draw mixed (by kernel_rfl) ?_ | with_reducible first | refine lwV_out ?_ | refine lwV_out0 ?_ | refine lkC_out ?_ | refine And.intro (by omega) ?_ | fail); exact hk'))) | (apply vopsQ_gf'; (case hd => rfl); (case h1 => rfl); (case h2 => rfl); (case h3 => simp (disch := first | omega | assumption) only [↓reduceIte, go_sem, e1, e2, g1, g2, g4, g5, g7, g8, e4, e5])) | (apply vopsQ_gj; (case hd => rfl); (case h1 => rfl); (case h2 => rfl); (case h3 => simp (disch := first | omega | assumption) only [↓reduceIte, go_sem, e1, e2, g1, g2, g4, g5, g7, g8, e4, e5])) | (apply vopsQ_gpk; (case hd => rfl); (case h1 => rfl); (case h2 => rfl); (case h3 => simp (disch := first | omega | assumption) only [↓reduceIte, go_sem, e1, e2, g1, g2, g4, g5, g7, g8, e4, e5]); (case k1 => simp (disch := first | omega | assumption) only [↓reduceIte, go_sem, e1, e2, g1, g2, g4, g5, g7, g8, e4, e5]); (case k2 => simp (disch := first | omega | assumption) only [↓reduceIte, go_sem, e1, e2, g1, g2, g4, g5, g7, g8, e4, e5]); (case k3 => simp (disch := first | omega | assumption) only [↓reduceIte, go_sem, e1, e2, g1, g2, g4, g5, g7, g8, e4, e5]); (case hb => (intro hc; (try simp (disch := first | omega | assumption) only [↓reduceIte, go_sem, e1, e2, g1, g2, g4, g5, g7, g8, e4, e5] at hc); simp (disch := first | omega | assumption) only [↓reduceIte, go_sem, hc, e1, e2, g1, g2, g4, g5, g7, g8, e4, e5])); (try simp (disch := first | omega | assumption) only [↓reduceIte, go_sem, e1, e2, g1, g2, g4, g5, g7, g8, e4, e5])) | (apply vopsQ_gu; (case hd => rfl); (case h1 => rfl); (case h2 => rfl); (case h3 => simp (disch := first | omega | assumption) only [↓reduceIte, go_sem, e1, e2, g1, g2, g4, g5, g7, g8, e4, e5]); (case hq => (intro hc K' hk'; (try simp (disch := first | omega | assumption) only [↓reduceIte, go_sem, e1, e2, g1, g2, g4, g5, g7, g8, e4, e5] at hc); repeat (first | simp (maxSteps := 4000000) (disch := first | omega | assumption) only [↓reduceIte, go_sem, hc, e1, e2, g1, g2, g4, g5, g7, g8, e4, e5] | with_reducible refine Gst.now ?_ | with_reducible refine vawp_draw mixed (by kernel_rfl) ?_ | with_reducible first | refine lwV_out ?_ | refine lwV_out0 ?_ | refine lkC_out ?_ | refine And.intro (by omega) ?_ | fail); exact hk')); (try simp (disch := first | omega | assumption) only [↓reduceIte, go_sem, e1, e2, g1, g2, g4, g5, g7, g8, e4, e5])) | fail)
        simp only [vopsQ_nil]
        apply vany_one 16
        case hr => kernel_rfl
        case ho => rfl
        repeat (first | (simp (maxSteps := 1000000) only [↓reduceIte, go_sem, e1, e2, g1, g2, g4, g5, g7, g8, e4, e5]) | (simp (maxSteps := 1000000) (disch := first | omega | assumption) only [BB, e1, e2, g1, g2, g4, g5, g7, g8, e4, e5]) | with_reducible first | refine lwV_out ?_ | refine lwV_out0 ?_ | refine lkC_out ?_ | refine And.intro (by omega) ?_ | fail)
        refine vany_end (by kernel_rfl) ?_
        repeat (first | (simp (maxSteps := 1000000) only [↓reduceIte, go_sem, e1, e2, g1, g2, g4, g5, g7, g8, e4, e5]) | (simp (maxSteps := 1000000) (disch := first | omega | assumption) only [BB, e1, e2, g1, g2, g4, g5, g7, g8, e4, e5]) | with_reducible refine Gst.now ?_ | with_reducible refine vawp_draw mixed (by kernel_rfl) ?_ | with_reducible first | refine lwV_out ?_ | refine lwV_out0 ?_ | refine lkC_out ?_ | refine And.intro (by omega) ?_ | fail)
        refine ⟨k - 1, by omega, 1, by omega, ?_⟩
        rw [hr1]
        repeat (first | (simp (maxSteps := 1000000) only [↓reduceIte, go_sem, e1, e2, g1, g2, g4, g5, g7, g8, e4, e5]) | (simp (maxSteps := 1000000) (disch := first | omega | assumption) only [BB, e1, e2, g1, g2, g4, g5, g7, g8, e4, e5]) | with_reducible refine Gst.now ?_ | with_reducible refine vawp_draw mixed (by kernel_rfl) ?_ | with_reducible first | refine lwV_out ?_ | refine lwV_out0 ?_ | refine lkC_out ?_ | refine And.intro (by omega) ?_ | fail)
        rw [hset_comm (show p ≠ s by omega), hset_comm (show p ≠ r by omega), hset_comm (show p ≠ q by omega), hset_hset, hnx]
      · have hr1 := recS_s nx X L b i hi hi0
        generalize hS : recS nx X L b i = S at *
        have e5 := rowsS_len S
        have e6 : (i == 0) = false := beq_false_of_ne hi0
        repeat (first | (simp (maxSteps := 1000000) only [↓reduceIte, go_sem, e1, e2, g1, g2, g4, g5, g7, g8, e4, e5, e6]) | (simp (maxSteps := 1000000) (disch := first | omega | assumption) only [BB, e1, e2, g1, g2, g4, g5, g7, g8, e4, e5, e6]) | with_reducible refine Gst.now ?_ | with_reducible first | refine lwV_out ?_ | refine lwV_out0 ?_ | refine lkC_out ?_ | refine And.intro (by omega) ?_ | fail)
        apply vawp_quiet 16 1 mixed
        case hk => rfl
        case hok => kernel_rfl
        simp only [List.toList_toArray, List.take_succ_cons, List.take_zero]
        repeat (first | (apply vopsQ_pk; (case hd => rfl); (case h1 => simp (disch := first | omega | assumption) only [↓reduceIte, go_sem, e1, e2, g1, g2, g4, g5, g7, g8, e4, e5, e6]); (case h2 => simp (disch := first | omega | assumption) only [↓reduceIte, go_sem, e1, e2, g1, g2, g4, g5, g7, g8, e4, e5, e6]); (case h3 => simp (disch := first | omega | assumption) only [↓reduceIte, go_sem, e1, e2, g1, g2, g4, g5, g7, g8, e4, e5, e6]); (case hb => simp (disch := first | omega | assumption) only [↓reduceIte, go_sem, e1, e2, g1, g2, g4, g5, g7, g8, e4, e5, e6]); (try simp (disch := first | omega | assumption) only [↓reduceIte, go_sem, e1, e2, g1, g2, g4, g5, g7, g8, e4, e5, e6])) | (apply vopsQ_n; (case hd => rfl); (case hq => (intro K' hk'; repeat (first | simp (maxSteps := 4000000) (disch := first | omega | assumption) only [↓reduceIte, go_sem, e1, e2, g1, g2, g4, g5, g7, g8, e4, e5, e6] | with_reducible refine Gst.now ?_ | with_reducible refine vawp_draw mixed (by kernel_rfl) ?_ | with_reducible first | refine lwV_out ?_ | refine lwV_out0 ?_ | refine lkC_out ?_ | refine And.intro (by omega) ?_ | fail); exact hk'))) | (apply vopsQ_gt; (case hd => rfl); (case h1 => rfl); (case h2 => rfl); (case h3 => simp (disch := first | omega | assumption) only [↓reduceIte, go_sem]); (case hq => (intro K' hk'; repeat (first | simp (maxSteps := 4000000) (disch := first | omega | assumption) only [↓reduceIte, go_sem, e1, e2, g1, g2, g4, g5, g7, g8, e4, e5, e6] | with_reducible refine Gst.now ?_ | with_reducible refine vawp_draw mixed (by kernel_rfl) ?_ | with_reducible first | refine lwV_out ?_ | refine lwV_out0 ?_ | refine lkC_out ?_ | refine And.intro (by omega) ?_ | fail); exact hk'))) | (apply vopsQ_gf'; (case hd => rfl); (case h1 => rfl); (case h2 => rfl); (case h3 => simp (disch := first | omega | assumption) only [↓reduceIte, go_sem, e1, e2, g1, g2, g4, g5, g7, g8, e4, e5, e6])) | (apply vopsQ_gj; (case hd => rfl); (case h1 => rfl); (case h2 => rfl); (case h3 => simp (disch := first | omega | assumption) only [↓reduceIte, go_sem, e1, e2, g1, g2, g4, g5, g7, g8, e4, e5, e6])) | (apply vopsQ_gpk; (case hd => rfl); (case h1 => rfl); (case h2 => rfl); (case h3 => simp (disch := first | omega | assumption) only [↓reduceIte, go_sem, e1, e2, g1, g2, g4, g5, g7, g8, e4, e5, e6]); (case k1 => simp (disch := first | omega | assumption) only [↓reduceIte, go_sem, e1, e2, g1, g2, g4, g5, g7, g8, e4, e5, e6]); (case k2 => simp (disch := first | omega | assumption) only [↓reduceIte, go_sem, e1, e2, g1, g2, g4, g5, g7, g8, e4, e5, e6]); (case k3 => simp (disch := first | omega | assumption) only [↓reduceIte, go_sem, e1, e2, g1, g2, g4, g5, g7, g8, e4, e5, e6]); (case hb => (intro hc; (try simp (disch := first | omega | assumption) only [↓reduceIte, go_sem, e1, e2, g1, g2, g4, g5, g7, g8, e4, e5, e6] at hc); simp (disch := first | omega | assumption) only [↓reduceIte, go_sem, hc, e1, e2, g1, g2, g4, g5, g7, g8, e4, e5, e6])); (try simp (disch := first | omega | assumption) only [↓reduceIte, go_sem, e1, e2, g1, g2, g4, g5, g7, g8, e4, e5, e6])) | (apply vopsQ_gu; (case hd => rfl); (case h1 => rfl); (case h2 => rfl); (case h3 => simp (disch := first | omega | assumption) only [↓reduceIte, go_sem, e1, e2, g1, g2, g4, g5, g7, g8, e4, e5, e6]); (case hq => (intro hc K' hk'; (try simp (disch := first | omega | assumption) only [↓reduceIte, go_sem, e1, e2, g1, g2, g4, g5, g7, g8, e4, e5, e6] at hc); repeat (first | simp (maxSteps := 4000000) (disch := first | omega | assumption) only [↓reduceIte, go_sem, hc, e1, e2, g1, g2, g4, g5, g7, g8, e4, e5, e6] | with_reducible refine Gst.now ?_ | with_reducible refine vawp_draw mixed (by kernel_rfl) ?_ | with_reducible first | refine lwV_out ?_ | refine lwV_out0 ?_ | refine lkC_out ?_ | refine And.intro (by omega) ?_ | fail); exact hk')); (try simp (disch := first | omega | assumption) only [↓reduceIte, go_sem, e1, e2, g1, g2, g4, g5, g7, g8, e4, e5, e6])) | fail)
        first | (apply vopsQ_n; (case hd => rfl)) | (apply vopsQ_gt; (case hd => rfl); (case h1 => rfl); (case h2 => rfl); (case h3 => simp (disch := first | omega | assumption) only [↓reduceIte, go_sem]))
        case hq => (intro K' hk'; repeat (first | simp (maxSteps := 4000000) (disch := first | omega | assumption) only [↓reduceIte, go_sem] | with_reducible refine Gst.now ?_ | with_reducible refine vawp_draw mixed (by kernel_rfl) ?_ | with_reducible first | refine lwV_out ?_ | refine lwV_out0 ?_ | refine lkC_out ?_ | refine And.intro (by omega) ?_ | fail); refine call_ok ?_; refine rput_v (S := S) (by omega) (by omega) ?_; exact hk')
        repeat (first | (apply vopsQ_pk; (case hd => rfl); (case h1 => simp (disch := first | omega | assumption) only [↓reduceIte, go_sem, e1, e2, g1, g2, g4, g5, g7, g8, e4, e5, e6]); (case h2 => simp (disch := first | omega | assumption) only [↓reduceIte, go_sem, e1, e2, g1, g2, g4, g5, g7, g8, e4, e5, e6]); (case h3 => simp (disch := first | omega | assumption) only [↓reduceIte, go_sem, e1, e2, g1, g2, g4, g5, g7, g8, e4, e5, e6]); (case hb => simp (disch := first | omega | assumption) only [↓reduceIte, go_sem, e1, e2, g1, g2, g4, g5, g7, g8, e4, e5, e6]); (try simp (disch := first | omega | assumption) only [↓reduceIte, go_sem, e1, e2, g1, g2, g4, g5, g7, g8, e4, e5, e6])) | (apply vopsQ_n; (case hd => rfl); (case hq => (intro K' hk'; repeat (first | simp (maxSteps := 4000000) (disch := first | omega | assumption) only [↓reduceIte, go_sem, e1, e2, g1, g2, g4, g5, g7, g8, e4, e5, e6] | with_reducible refine Gst.now ?_ | with_reducible refine vawp_draw mixed (by kernel_rfl) ?_ | with_reducible first | refine lwV_out ?_ | refine lwV_out0 ?_ | refine lkC_out ?_ | refine And.intro (by omega) ?_ | fail); exact hk'))) | (apply vopsQ_gt; (case hd => rfl); (case h1 => rfl); (case h2 => rfl); (case h3 => simp (disch := first | omega | assumption) only [↓reduceIte, go_sem]); (case hq => (intro K' hk'; repeat (first | simp (maxSteps := 4000000) (disch := first | omega | assumption) only [↓reduceIte, go_sem, e1, e2, g1, g2, g4, g5, g7, g8, e4, e5, e6] | with_reducible refine Gst.now ?_ | with_reducible refine vawp_draw mixed (by kernel_rfl) ?_ | with_reducible first | refine lwV_out ?_ | refine lwV_out0 ?_ | refine lkC_out ?_ | refine And.intro (by omega) ?_ | fail); exact hk'))) | (apply vopsQ_gf'; (case hd => rfl); (case h1 => rfl); (case h2 => rfl); (case h3 => simp (disch := first | omega | assumption) only [↓reduceIte, go_sem, e1, e2, g1, g2, g4, g5, g7, g8, e4, e5, e6])) | (apply vopsQ_gj; (case hd => rfl); (case h1 => rfl); (case h2 => rfl); (case h3 => simp (disch := first | omega | assumption) only [↓reduceIte, go_sem, e1, e2, g1, g2, g4, g5, g7, g8, e4, e5, e6])) | (apply vopsQ_gpk; (case hd => rfl); (case h1 => rfl); (case h2 => rfl); (case h3 => simp (disch := first | omega | assumption) only [↓reduceIte, go_sem, e1, e2, g1, g2, g4, g5, g7, g8, e4, e5, e6]); (case k1 => simp (disch := first | omega | assumption) only [↓reduceIte, go_sem, e1, e2, g1, g2, g4, g5, g7, g8, e4, e5, e6]); (case k2 => simp (disch := first | omega | assumption) only [↓reduceIte, go_sem, e1, e2, g1, g2, g4, g5, g7, g8, e4, e5, e6]); (case k3 => simp (disch := first | omega | assumption) only [↓reduceIte, go_sem, e1, e2, g1, g2, g4, g5, g7, g8, e4, e5, e6]); (case hb => (intro hc; (try simp (disch := first | omega | assumption) only [↓reduceIte, go_sem, e1, e2, g1, g2, g4, g5, g7, g8, e4, e5, e6] at hc); simp (disch := first | omega | assumption) only [↓reduceIte, go_sem, hc, e1, e2, g1, g2, g4, g5, g7, g8, e4, e5, e6])); (try simp (disch := first | omega | assumption) only [↓reduceIte, go_sem, e1, e2, g1, g2, g4, g5, g7, g8, e4, e5, e6])) | (apply vopsQ_gu; (case hd => rfl); (case h1 => rfl); (case h2 => rfl); (case h3 => simp (disch := first | omega | assumption) only [↓reduceIte, go_sem, e1, e2, g1, g2, g4, g5, g7, g8, e4, e5, e6]); (case hq => (intro hc K' hk'; (try simp (disch := first | omega | assumption) only [↓reduceIte, go_sem, e1, e2, g1, g2, g4, g5, g7, g8, e4, e5, e6] at hc); repeat (first | simp (maxSteps := 4000000) (disch := first | omega | assumption) only [↓reduceIte, go_sem, hc, e1, e2, g1, g2, g4, g5, g7, g8, e4, e5, e6] | with_reducible refine Gst.now ?_ | with_reducible refine vawp_draw mixed (by kernel_rfl) ?_ | with_reducible first | refine lwV_out ?_ | refine lwV_out0 ?_ | refine lkC_out ?_ | refine And.intro (by omega) ?_ | fail); exact hk')); (try simp (disch := first | omega | assumption) only [↓reduceIte, go_sem, e1, e2, g1, g2, g4, g5, g7, g8, e4, e5, e6])) | fail)
        simp only [vopsQ_nil]
        apply vany_one 16
        case hr => kernel_rfl
        case ho => rfl
        repeat (first | (simp (maxSteps := 1000000) only [↓reduceIte, go_sem, e1, e2, g1, g2, g4, g5, g7, g8, e4, e5, e6]) | (simp (maxSteps := 1000000) (disch := first | omega | assumption) only [BB, e1, e2, g1, g2, g4, g5, g7, g8, e4, e5, e6]) | with_reducible first | refine lwV_out ?_ | refine lwV_out0 ?_ | refine lkC_out ?_ | refine And.intro (by omega) ?_ | fail)
        refine vany_end (by kernel_rfl) ?_
        repeat (first | (simp (maxSteps := 1000000) only [↓reduceIte, go_sem, e1, e2, g1, g2, g4, g5, g7, g8, e4, e5, e6]) | (simp (maxSteps := 1000000) (disch := first | omega | assumption) only [BB, e1, e2, g1, g2, g4, g5, g7, g8, e4, e5, e6]) | with_reducible refine Gst.now ?_ | with_reducible refine vawp_draw mixed (by kernel_rfl) ?_ | with_reducible first | refine lwV_out ?_ | refine lwV_out0 ?_ | refine lkC_out ?_ | refine And.intro (by omega) ?_ | fail)
        refine ⟨k - 1, by omega, i + 1, by omega, ?_⟩
        rw [hr1]
        repeat (first | (simp (maxSteps := 1000000) only [↓reduceIte, go_sem, e1, e2, g1, g2, g4, g5, g7, g8, e4, e5, e6]) | (simp (maxSteps := 1000000) (disch := first | omega | assumption) only [BB, e1, e2, g1, g2, g4, g5, g7, g8, e4, e5, e6]) | with_reducible refine Gst.now ?_ | with_reducible refine vawp_draw mixed (by kernel_rfl) ?_ | with_reducible first | refine lwV_out ?_ | refine lwV_out0 ?_ | refine lkC_out ?_ | refine And.intro (by omega) ?_ | fail)
        rw [hset_comm (show p ≠ s by omega), hset_comm (show p ≠ r by omega), hset_comm (show p ≠ q by omega), hset_hset]
    · have e4 := eq_false hi
      have hie : i = b.length := by omega
      subst hie
      rw [hn] at *
      generalize hS : layW sz X L b = S at *
      repeat (first | (simp (maxSteps := 1000000) only [↓reduceIte, go_sem, e1, e2, g1, g2, g4, g5, g7, g8, e4]) | (simp (maxSteps := 1000000) (disch := first | omega | assumption) only [BB, e1, e2, g1, g2, g4, g5, g7, g8, e4]) | with_reducible refine Gst.now ?_ | with_reducible first | refine lwV_out ?_ | refine lwV_out0 ?_ | refine lkC_out ?_ | refine And.intro (by omega) ?_ | fail)
      refine vawp_split [0, 1] [2, 3, 4] (fun h' => blkV h' s = some (37, [(.sc (.int .i64 ((pl.1 : Nat)))), (.sc (.int .i64 ((pl.2 : Nat))))]) ∧ blkV h' p = some (31, [(.sc (.int .i64 ((sz : Nat)))), .isl false (S.1.length + 1) ((rowsS S).flatMap rowC)])) mixed (by kernel_rfl) ?_ ?_
      · exact ⟨blkV_set, by rw [blkV_nset (by omega), blkV_nset (by omega), blkV_nset (by omega)]; exact blkV_set⟩
      simp only [pickO_cons, pickO_nil, List.getElem?_toArray, List.getElem?_cons_zero, List.getElem?_cons_succ]
      repeat (first | (apply vopsP_n; (case hd => rfl); (case hq => (intro h' K' hI' hk'; repeat (first | simp (maxSteps := 4000000) (disch := first | omega | assumption) only [↓reduceIte, go_sem, hI', e1, e2, g1, g2, g4, g5, g7, g8, e4] | with_reducible refine Gst.now ?_ | with_reducible refine vawp_draw mixed (by kernel_rfl) ?_ | with_reducible first | refine lwV_out ?_ | refine lwV_out0 ?_ | refine lkC_out ?_ | refine And.intro (by omega) ?_ | fail); exact hk'))) | fail)
      simp only [vopsP_nil]
      first | (apply vopsI_n; (case hd => rfl)) | apply vopsI_0
      repeat (first | (simp (maxSteps := 1000000) only [↓reduceIte, go_sem, e1, e2, g1, g2, g4, g5, g7, g8, e4]) | (simp (maxSteps := 1000000) (disch := first | omega | assumption) only [BB, e1, e2, g1, g2, g4, g5, g7, g8, e4]) | with_reducible refine Gst.now ?_ | with_reducible refine vawp_draw mixed (by kernel_rfl) ?_ | with_reducible first | refine lwV_out ?_ | refine lwV_out0 ?_ | refine lkC_out ?_ | refine And.intro (by omega) ?_ | fail)
      first | (apply vopsI_n; (case hd => rfl)) | apply vopsI_0
      repeat (first | (simp (maxSteps := 1000000) only [↓reduceIte, go_sem, e1, e2, g1, g2, g4, g5, g7, g8, e4]) | (simp (maxSteps := 1000000) (disch := first | omega | assumption) only [BB, e1, e2, g1, g2, g4, g5, g7, g8, e4]) | with_reducible refine Gst.now ?_ | with_reducible refine vawp_draw mixed (by kernel_rfl) ?_ | with_reducible first | refine lwV_out ?_ | refine lwV_out0 ?_ | refine lkC_out ?_ | refine And.intro (by omega) ?_ | fail)
      first | (apply vopsI_n; (case hd => rfl)) | apply vopsI_0
      repeat (first | (simp (maxSteps := 1000000) only [↓reduceIte, go_sem, e1, e2, g1, g2, g4, g5, g7, g8, e4]) | (simp (maxSteps := 1000000) (disch := first | omega | assumption) only [BB, e1, e2, g1, g2, g4, g5, g7, g8, e4]) | with_reducible refine Gst.now ?_ | with_reducible refine vawp_draw mixed (by kernel_rfl) ?_ | with_reducible first | refine lwV_out ?_ | refine lwV_out0 ?_ | refine lkC_out ?_ | refine And.intro (by omega) ?_ | fail)
      simp only [vopsI_nil]
      repeat (first | (simp (maxSteps := 1000000) only [↓reduceIte, go_sem, e1, e2, g1, g2, g4, g5, g7, g8, e4]) | (simp (maxSteps := 1000000) (disch := first | omega | assumption) only [BB, e1, e2, g1, g2, g4, g5, g7, g8, e4]) | with_reducible refine Gst.now ?_ | with_reducible refine vawp_draw mixed (by kernel_rfl) ?_ | with_reducible first | refine lwV_out ?_ | refine lwV_out0 ?_ | refine lkC_out ?_ | refine And.intro (by omega) ?_ | fail)
      refine hq _ _ ?_
      repeat (first | (simp (maxSteps := 1000000) only [↓reduceIte, go_sem, e1, e2, g1, g2, g4, g5, g7, g8, e4]) | (simp (maxSteps := 1000000) (disch := first | omega | assumption) only [BB, e1, e2, g1, g2, g4, g5, g7, g8, e4]) | with_reducible refine Gst.now ?_ | with_reducible refine vawp_draw mixed (by kernel_rfl) ?_ | with_reducible first | refine lwV_out ?_ | refine lwV_out0 ?_ | refine lkC_out ?_ | refine And.intro (by omega) ?_ | fail)
      refine .drop p (.drop q (.drop r (.drop s (.now (kcast (hK1 (by omega) (by omega)) ?_ ?_)))))
      · rfl
      · funext i
        simp only [hset, hdel]
        repeat' split
        all_goals first | rfl | (subst_vars; simp_all; done)
end
end Go.Proofs.Ytbmikefignmkdaa.VSpanR
