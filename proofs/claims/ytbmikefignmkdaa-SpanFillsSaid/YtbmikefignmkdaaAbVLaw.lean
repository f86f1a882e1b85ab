/- the laws of chapter 22, over the machine of values: steps, the example. -/
import Derived.Test.YtbmikefignmkdaaProg
import Derived.Test.YtbmikefignmkdaaAbV16
import Derived.Test.YtbmikefignmkdaaAbFacts
import Derived.Test.YtbmikefignmkdaaAbVRow1
import Derived.Test.YtbmikefignmkdaaAbLittleM
import Derived.Test.YtbmikefignmkdaaAbVPut
import Derived.Test.YtbmikefignmkdaaAbVSame
import Derived.Test.YtbmikefignmkdaaAbVJoin
import Derived.Test.YtbmikefignmkdaaAbVSpan
import Derived.Test.YtbmikefignmkdaaAbVSpan2
import Derived.Test.YtbmikefignmkdaaAbVSpan3
import Derived.Test.YtbmikefignmkdaaAbVSpanR
import Derived.KernelRfl
import Derived.Laws.BitsAllLaws
set_option linter.unusedVariables false
set_option linter.unusedSimpArgs false
set_option maxRecDepth 100000
set_option maxHeartbeats 4000000
namespace Go.Proofs.Ytbmikefignmkdaa.VLaw
open Go.RowKit Go.Proofs.AbM Go.Proofs.Ytbmikefignmkdaa.Facts Go.Proofs.Ytbmikefignmkdaa.VRow1 Go.Proofs.Ytbmikefignmkdaa.LittleM Go.Proofs.Ytbmikefignmkdaa.VPut Go.Proofs.Ytbmikefignmkdaa.VSame Go.Proofs.Ytbmikefignmkdaa.VJoin Go.Proofs.Ytbmikefignmkdaa.VSpan Go.Proofs.Ytbmikefignmkdaa.VSpan2 Go.Proofs.Ytbmikefignmkdaa.VSpan3 Go.Proofs.Ytbmikefignmkdaa.VSpanR
attribute [local go_sem] vawp_skip_eq vawp_seq_eq vawp_region_eq vawp_cond_g vawp_block_eq vawp_exit_eq vawp_ret_eq thenV_ret thenV_exit thenV_normal inBlockV_normal inBlockV_ret inBlockV_exit resKV_nil resKV_tmp resKV_cell oneV_one oneV_nil oneV_more initV_nil initV_cons updV_at evv_tmp evv_func evv_global evv_int evv_bool evv_str evv_snil evv_pnil evv_agg ofV3_int ofV3_bool ofV3_str ofV3_snil ofV3_pnil vok_tmp vok_func vok_global vok_int vok_bool vok_str vok_snil vok_pnil vok_agg cloV3_int cloV3_bool cloV3_str cloV3_snil cloV3_pnil voks_nil voks_cons scV_int scV_bool scV_str isBlV_b isBV_t isBV_f lwV_none lwV_sc lwV_agg lwV_tup lwV_isl lwV_own lwV_op lwV_ip lwV_fn lwV_junk vops_nil vops_n vops_s gsN_eq vop dstOk_some dstOk_none pkV_b blkV_set eRead_f eRead_t vLoad_op vLoad_ip vStore_op cells_sc cells_isl cells_own cells_op cells_ip cells_fn cells_agg parts_sc parts_isl parts_own parts_op parts_ip parts_fn parts_agg one_sc one_isl one_own one_op one_ip one_fn vField_op vField_ip ePart_f ePart_t vFieldV_agg vIx_isl vIx_own vIx_op vIx_ip vIxV_agg vIxV_str vLen_str vLen_isl vLen_own vLen_agg bndE_none bndE_int vSlice_isl vSlice_str vBin_add vBin_sub vBin_mul vBin_quo vBin_rem vBin_and vBin_or vBin_xor vBin_andNot vBin_eql vBin_neq vBin_lss vBin_leq vBin_gtr vBin_geq vBin_shr_i8 vBin_shl_i8 vBin_shr_i16 vBin_shl_i16 vBin_shr_i32 vBin_shl_i32 vBin_shr_i64 vBin_shl_i64 vBin_shr_u8 vBin_shl_u8 vBin_shr_u16 vBin_shl_u16 vBin_shr_u32 vBin_shl_u32 vBin_shr_u64 vBin_shl_u64 vBin_seq vBin_sne vBin_isln vBin_opn vBin_ipn ex_sc ex_sc2 ex_sc3 ex_tup calleeV wSc_pb wSc_pi wSc_not wSc_neg wSc_com wSc_min2 wSc_max2 vfold_nil vfold_one vfold_cons vfill_nil vfill_e eFill_s vBuild vBox vAlloc setV_map setV_zs setV_zn setV_s hset_hset eConv_ss vConv_e iv_eq ivI_eq ex_get ex_getI set_iv set_ivI okNil isNilV isSlV hdel_at hset_at List.map_toArray List.map_cons List.map_nil List.nil_append List.cons_append List.append_nil List.toList_toArray List.getElem?_toArray List.getElem_toArray List.getElem_cons_zero List.getElem_cons_succ List.getElem?_cons_zero List.getElem?_cons_succ List.set_cons_zero List.set_cons_succ List.set_set List.length_cons List.length_nil List.length_set List.length_map List.all_cons List.all_nil List.drop_zero List.drop_succ_cons List.take_succ_cons List.take_zero List.flatMap_cons Bool.and_eq_true true_and and_true if_true if_false ite_true ite_false forall_eq' forall_eq exists_eq_left exists_eq_left' exists_eq' Value.bool.injEq Value.int.injEq Value.string.injEq Value.pointer.injEq Option.some.injEq AV.sc.injEq AV.op.injEq AV.ip.injEq AV.own.injEq AV.agg.injEq VB.cells.injEq VB.iter.injEq Prod.mk.injEq decide_eq_true_eq decide_eq_false_iff_not Nat.reduceEqDiff Nat.reduceLT Nat.reduceLeDiff Nat.reduceSub Nat.reduceBEq reduceIte Int.reduceLE Int.reduceLT Int.reduceToNat Int.reduceNeg Int.reduceEq Int.reduceNe Int.cast_ofNat_Int Nat.reduceMul Nat.reduceAdd Nat.reduceDiv Nat.reduceMod Nat.reducePow Int.reduceSub Int.reduceAdd Int.reduceMul Int.reducePow Option.isSome_some Option.isSome_none Option.bind_some Option.map_some Option.map_none Option.toList_some Option.toList_none true_or or_true or_false false_or Bool.not_true Bool.not_false Bool.not_eq_true Bool.false_eq_true Bool.not_not false_implies true_implies implies_true Nat.zero_add Nat.add_zero Nat.mul_one Bool.not_eq_true' Bool.true_eq_false Bool.and_true Bool.true_and Bool.and_false Bool.false_and Bool.or_true Bool.true_or Bool.or_false Bool.false_or Option.isNone_some Option.isNone_none Int.reduceBEq Int.reduceBNe beq_self_eq_true bne_self_eq_false beq_iff_eq not_false_eq_true not_true_eq_false Decidable.not_not bne_iff_ne ne_eq Int.toNat_natCast gt_lt ge_le c_add c_mul c_sub c_addn c_nadd c_muln c_nmul c_subn c_nsub c_divn c_modn c_div c_mod c_tdivn c_tmodn c_tdiv c_tmod c_pow c_nn c_beq c_beqn c_bne c_bnen wr64 wr32 wru64 wru32 wru16 wru8 c_if c_if1 c_if2 c_lt c_le c_eq c_ltn c_len c_nlt c_nle c_eqn m_drop m_take Nat.add_sub_cancel_left Nat.add_sub_cancel Int.reduceTMod Int.reduceTDiv Int.reduceMod Int.reduceDiv isC_some hset_ne hdel_ne hdel_hset hdel_hset_ne blkV_nset blkV_ndel hset_hdel gV_t gV_f isGdV_b isGdV_u isBV_u isGdV_g isBV_gt isBV_gf decide_true decide_false Bool.or_eq_false_iff eq_self Nat.lt_irrefl Int.lt_irrefl Nat.le_refl Int.le_refl
attribute [local go_sem high] vops_pk vops_mv vops_as vops_smv pk_and pk_or pk_gand pk_gor pk_orn pk_gorn
attribute [local go_sem] ag3 sz3 zc3 ik3 ag4 sz4 zc4 ag5 sz5 zc5 ik5 ag9 sz9 zc9 iq9 ag22 sz22 el22 zc22 is22 ag25 sz25 zc25 pt25 ag26 sz26 zc26 ik26 ag29 sz29 el29 zc29 is29 ag31 sz31 zc31 bo31 ag33 sz33 el33 zc33 is33 ag35 sz35 zc35 bo35 ag37 sz37 zc37 eqs37 nes37 bo37 ag51 sz51 el51 zc51 is51 ag59 sz59 zc59 ik59 ag61 sz61 zc61 bo61 ag67 sz67 zc67 of31_0 fd31_0 of31_1 fd31_1 of35_0 fd35_0 of35_1 fd35_1 of37_0 fd37_0 of37_1 fd37_1 of61_0 fd61_0 of61_1 fd61_1 eqb neb
section
variable {n : Nat} {h : VH} {K : AV → VH → Prop}
attribute [local go_sem] rowC rowA ex_row row_len row_take row_drop Nat.sub_zero Nat.zero_le refA_eq
structure OpS where
  kind : Int
  b : RowV
deriving Inhabited
def opC (o : OpS) : List AV := [(.sc (.int .i64 (o.kind))), rowA o.b]
attribute [local go_sem] opC
theorem opC_len (o : OpS) : (opC o).length = 2 := rfl
theorem op_len (ss : List OpS) : (ss.flatMap opC).length = ss.length * 2 := flat_len opC_len ss
theorem op_at (ss : List OpS) (i : Nat) (hi : i < ss.length) : ((ss.flatMap opC).drop (i * 2)).take 2 = opC (ss.getD i default) := flat_get opC_len default ss i hi
attribute [local go_sem] op_len
def fewO (os : List OpS) : Bool := os.all (fun o => decide (o.b.bs.length ≤ 60)) && decide (os.length ≤ 20)
theorem few_v {nl : Bool} {l : Nat} {os : List OpS} (hl : l = os.length) (hb : os.length ≤ 140737488355328) (hr : ∀ o ∈ os, o.b.bs.length ≤ 140737488355328) (hK : K (.sc (.bool (fewO os))) h) : VC Try.prog GL (n + 1) 8 [.isl nl l (os.flatMap opC)] h K := by
  refine VC_go Try.func8 rfl (by decide) Try.ntmps8 Try.results8 rfl fun Q hq hn => ?_
  subst hl
  repeat (first | (simp (maxSteps := 1000000) only [↓reduceIte, go_sem]) | (simp (maxSteps := 1000000) (disch := first | omega | assumption) only [BB]) | with_reducible refine Gst.now ?_ | with_reducible refine vawp_draw mixed (by kernel_rfl) ?_ | with_reducible first | refine lwV_out ?_ | refine lwV_out0 ?_ | refine lkC_out ?_ | refine And.intro (by omega) ?_ | fail)
  refine vawp_loop (k := os.length) (fun k ρ h1 => ∃ i : Nat, k + i = os.length ∧ ρ 0 = .isl nl os.length (os.flatMap opC) ∧ ρ 5 = .isl nl os.length (os.flatMap opC) ∧ ρ 6 = (.sc (.int .i64 (os.length))) ∧ ρ 7 = (.sc (.int .i64 (i))) ∧ (∀ r ∈ os.take i, r.b.bs.length ≤ 60) ∧ h1 = h) ?_ ?_
  · refine ⟨0, by omega, ?_⟩
    repeat (first | (simp (maxSteps := 1000000) only [↓reduceIte, go_sem]) | (simp (maxSteps := 1000000) (disch := first | omega | assumption) only [BB]) | with_reducible refine Gst.now ?_ | with_reducible refine vawp_draw mixed (by kernel_rfl) ?_ | with_reducible first | refine lwV_out ?_ | refine lwV_out0 ?_ | refine lkC_out ?_ | refine And.intro (by omega) ?_ | fail)
    intro r hr; cases hr
  · rintro k ρ h1 ⟨i, hki, g0, g5, g6, g7, hs, rfl⟩
    repeat (first | (simp (maxSteps := 1000000) only [↓reduceIte, go_sem, g0, g5, g6, g7]) | (simp (maxSteps := 1000000) (disch := first | omega | assumption) only [BB, g0, g5, g6, g7]) | with_reducible refine Gst.now ?_ | with_reducible refine vawp_draw mixed (by kernel_rfl) ?_ | with_reducible first | refine lwV_out ?_ | refine lwV_out0 ?_ | refine lkC_out ?_ | refine And.intro (by omega) ?_ | fail)
    split
    · have hi : i < os.length := by omega
      have e3 := op_at os i hi
      have hrt := hr _ (getD_mem hi)
      have htk := take_snocD hi
      have hmem := getD_mem hi
      generalize os.getD i default = o at *
      obtain ⟨ok, ob⟩ := o
      simp only at hrt
      repeat (first | (simp (maxSteps := 1000000) only [↓reduceIte, go_sem, g0, g5, g6, g7, e3]) | (simp (maxSteps := 1000000) (disch := first | omega | assumption) only [BB, g0, g5, g6, g7, e3]) | with_reducible refine Gst.now ?_ | with_reducible refine vawp_draw mixed (by kernel_rfl) ?_ | with_reducible first | refine lwV_out ?_ | refine lwV_out0 ?_ | refine lkC_out ?_ | refine And.intro (by omega) ?_ | fail)
      intro p hp
      repeat (first | (simp (maxSteps := 1000000) only [↓reduceIte, go_sem, g0, g5, g6, g7, e3]) | (simp (maxSteps := 1000000) (disch := first | omega | assumption) only [BB, g0, g5, g6, g7, e3]) | with_reducible refine vawp_draw mixed (by kernel_rfl) ?_ | with_reducible first | refine lwV_out ?_ | refine lwV_out0 ?_ | refine lkC_out ?_ | refine And.intro (by omega) ?_ | fail)
      refine .box 4 p hp rfl (.now ?_)
      repeat (first | (simp (maxSteps := 1000000) only [↓reduceIte, go_sem, g0, g5, g6, g7, e3]) | (simp (maxSteps := 1000000) (disch := first | omega | assumption) only [BB, g0, g5, g6, g7, e3]) | with_reducible refine Gst.now ?_ | with_reducible refine vawp_draw mixed (by kernel_rfl) ?_ | with_reducible first | refine lwV_out ?_ | refine lwV_out0 ?_ | refine lkC_out ?_ | refine And.intro (by omega) ?_ | fail)
      split
      · rename_i h60
        have e1 : fewO os = false := by
          unfold fewO
          rw [Bool.and_eq_false_iff]
          left
          rw [List.all_eq_false]
          exact ⟨_, hmem, by simpa using h60⟩
        rw [e1] at hK
        repeat (first | (simp (maxSteps := 1000000) only [↓reduceIte, go_sem, g0, g5, g6, g7, e3, e1]) | (simp (maxSteps := 1000000) (disch := first | omega | assumption) only [BB, g0, g5, g6, g7, e3, e1]) | with_reducible refine Gst.now ?_ | with_reducible refine vawp_draw mixed (by kernel_rfl) ?_ | with_reducible first | refine lwV_out ?_ | refine lwV_out0 ?_ | refine lkC_out ?_ | refine And.intro (by omega) ?_ | fail)
        refine hq _ _ ?_
        repeat (first | (simp (maxSteps := 1000000) only [↓reduceIte, go_sem, g0, g5, g6, g7, e3, e1]) | (simp (maxSteps := 1000000) (disch := first | omega | assumption) only [BB, g0, g5, g6, g7, e3, e1]) | with_reducible refine Gst.now ?_ | with_reducible refine vawp_draw mixed (by kernel_rfl) ?_ | with_reducible first | refine lwV_out ?_ | refine lwV_out0 ?_ | refine lkC_out ?_ | refine And.intro (by omega) ?_ | fail)
        exact .now hK
      · repeat (first | (simp (maxSteps := 1000000) only [↓reduceIte, go_sem, g0, g5, g6, g7, e3]) | (simp (maxSteps := 1000000) (disch := first | omega | assumption) only [BB, g0, g5, g6, g7, e3]) | with_reducible refine Gst.now ?_ | with_reducible refine vawp_draw mixed (by kernel_rfl) ?_ | with_reducible first | refine lwV_out ?_ | refine lwV_out0 ?_ | refine lkC_out ?_ | refine And.intro (by omega) ?_ | fail)
        refine ⟨k - 1, by omega, i + 1, by omega, ?_⟩
        repeat (first | (simp (maxSteps := 1000000) only [↓reduceIte, go_sem, g0, g5, g6, g7, e3]) | (simp (maxSteps := 1000000) (disch := first | omega | assumption) only [BB, g0, g5, g6, g7, e3]) | with_reducible refine Gst.now ?_ | with_reducible refine vawp_draw mixed (by kernel_rfl) ?_ | with_reducible first | refine lwV_out ?_ | refine lwV_out0 ?_ | refine lkC_out ?_ | refine And.intro (by omega) ?_ | fail)
        intro r hr
        rw [htk] at hr
        rcases List.mem_append.1 hr with h5 | h5
        · exact hs r h5
        · rw [List.mem_singleton] at h5; subst h5; simp only; omega
    · have hi : i = os.length := by omega
      subst hi
      rw [List.take_length] at hs
      have e1 : fewO os = decide (os.length ≤ 20) := by
        unfold fewO
        rw [List.all_eq_true.2 (fun r hr => decide_eq_true (hs r hr)), Bool.true_and]
      rw [e1] at hK
      repeat (first | (simp (maxSteps := 1000000) only [↓reduceIte, go_sem, g0, g5, g6, g7, e1]) | (simp (maxSteps := 1000000) (disch := first | omega | assumption) only [BB, g0, g5, g6, g7, e1]) | with_reducible refine Gst.now ?_ | with_reducible refine vawp_draw mixed (by kernel_rfl) ?_ | with_reducible first | refine lwV_out ?_ | refine lwV_out0 ?_ | refine lkC_out ?_ | refine And.intro (by omega) ?_ | fail)
      refine hq _ _ ?_
      repeat (first | (simp (maxSteps := 1000000) only [↓reduceIte, go_sem, g0, g5, g6, g7, e1]) | (simp (maxSteps := 1000000) (disch := first | omega | assumption) only [BB, g0, g5, g6, g7, e1]) | with_reducible refine Gst.now ?_ | with_reducible refine vawp_draw mixed (by kernel_rfl) ?_ | with_reducible first | refine lwV_out ?_ | refine lwV_out0 ?_ | refine lkC_out ?_ | refine And.intro (by omega) ?_ | fail)
      exact .now hK
theorem rows_t {nl nl2 : Bool} {l l2 : Nat} {xs ys : List RowV} (he : xs = ys) (hl : l = xs.length) (hl2 : l2 = ys.length) (hb : xs.length ≤ 140737488355328) (hx : ∀ r ∈ xs, r.bs.length ≤ 140737488355328) (hK : K (.sc (.bool (true))) h) : VC Try.prog GL (n + 2) 15 [.isl nl l (xs.flatMap rowC), .isl nl2 l2 (ys.flatMap rowC)] h K := by
  refine VC_go Try.func15 rfl (by decide) Try.ntmps15 Try.results15 rfl fun Q hq hn => ?_
  subst hl hl2 he
  repeat (first | (simp (maxSteps := 1000000) only [↓reduceIte, go_sem]) | (simp (maxSteps := 1000000) (disch := first | omega | assumption) only [BB]) | with_reducible refine Gst.now ?_ | with_reducible refine vawp_draw mixed (by kernel_rfl) ?_ | with_reducible first | refine lwV_out ?_ | refine lwV_out0 ?_ | refine lkC_out ?_ | refine And.intro (by omega) ?_ | fail)
  refine vawp_loop (k := xs.length) (fun k ρ h1 => ∃ i : Nat, k + i = xs.length ∧ ρ 0 = .isl nl xs.length (xs.flatMap rowC) ∧ ρ 1 = .isl nl2 xs.length (xs.flatMap rowC) ∧ ρ 5 = (.sc (.int .i64 (i))) ∧ h1 = h) ?_ ?_
  · refine ⟨0, by omega, ?_⟩
    repeat (first | (simp (maxSteps := 1000000) only [↓reduceIte, go_sem]) | (simp (maxSteps := 1000000) (disch := first | omega | assumption) only [BB]) | with_reducible refine Gst.now ?_ | with_reducible refine vawp_draw mixed (by kernel_rfl) ?_ | with_reducible first | refine lwV_out ?_ | refine lwV_out0 ?_ | refine lkC_out ?_ | refine And.intro (by omega) ?_ | fail)
  · rintro k ρ h1 ⟨i, hki, g0, g1, g5, rfl⟩
    repeat (first | (simp (maxSteps := 1000000) only [↓reduceIte, go_sem, g0, g1, g5]) | (simp (maxSteps := 1000000) (disch := first | omega | assumption) only [BB, g0, g1, g5]) | with_reducible refine Gst.now ?_ | with_reducible refine vawp_draw mixed (by kernel_rfl) ?_ | with_reducible first | refine lwV_out ?_ | refine lwV_out0 ?_ | refine lkC_out ?_ | refine And.intro (by omega) ?_ | fail)
    split
    · have hi : i < xs.length := by omega
      have hxi := hx _ (getD_mem hi)
      repeat (first | (simp (maxSteps := 1000000) only [↓reduceIte, go_sem, g0, g1, g5]) | (simp (maxSteps := 1000000) (disch := first | omega | assumption) only [BB, g0, g1, g5]) | with_reducible refine Gst.now ?_ | with_reducible refine vawp_draw mixed (by kernel_rfl) ?_ | with_reducible first | refine lwV_out ?_ | refine lwV_out0 ?_ | refine lkC_out ?_ | refine And.intro (by omega) ?_ | fail)
      with_reducible refine call_ok ?_
      refine same_t rfl rfl rfl hxi ?_
      repeat (first | (simp (maxSteps := 1000000) only [↓reduceIte, go_sem, g0, g1, g5]) | (simp (maxSteps := 1000000) (disch := first | omega | assumption) only [BB, g0, g1, g5]) | with_reducible refine Gst.now ?_ | with_reducible refine vawp_draw mixed (by kernel_rfl) ?_ | with_reducible first | refine lwV_out ?_ | refine lwV_out0 ?_ | refine lkC_out ?_ | refine And.intro (by omega) ?_ | fail)
      refine ⟨k - 1, by omega, i + 1, by omega, ?_⟩
      repeat (first | (simp (maxSteps := 1000000) only [↓reduceIte, go_sem, g0, g1, g5]) | (simp (maxSteps := 1000000) (disch := first | omega | assumption) only [BB, g0, g1, g5]) | with_reducible refine Gst.now ?_ | with_reducible refine vawp_draw mixed (by kernel_rfl) ?_ | with_reducible first | refine lwV_out ?_ | refine lwV_out0 ?_ | refine lkC_out ?_ | refine And.intro (by omega) ?_ | fail)
    · repeat (first | (simp (maxSteps := 1000000) only [↓reduceIte, go_sem, g0, g1, g5]) | (simp (maxSteps := 1000000) (disch := first | omega | assumption) only [BB, g0, g1, g5]) | with_reducible refine Gst.now ?_ | with_reducible refine vawp_draw mixed (by kernel_rfl) ?_ | with_reducible first | refine lwV_out ?_ | refine lwV_out0 ?_ | refine lkC_out ?_ | refine And.intro (by omega) ?_ | fail)
      refine hq _ _ ?_
      repeat (first | (simp (maxSteps := 1000000) only [↓reduceIte, go_sem, g0, g1, g5]) | (simp (maxSteps := 1000000) (disch := first | omega | assumption) only [BB, g0, g1, g5]) | with_reducible refine Gst.now ?_ | with_reducible refine vawp_draw mixed (by kernel_rfl) ?_ | with_reducible first | refine lwV_out ?_ | refine lwV_out0 ?_ | refine lkC_out ?_ | refine And.intro (by omega) ?_ | fail)
      exact .now hK
theorem held_v {a : Int} {sz : Nat} (hsz : 1 ≤ sz) (hK : K (.sc (.int .i64 ((clampW sz a : Nat)))) h) : VC Try.prog GL (n + 1) 19 [(.sc (.int .i64 (a))), (.sc (.int .i64 (1))), (.sc (.int .i64 ((sz : Nat))))] h K := by
  refine VC_go Try.func19 rfl (by decide) Try.ntmps19 Try.results19 rfl fun Q hq hn => ?_
  unfold clampW at hK
  repeat (first | (simp (maxSteps := 1000000) only [↓reduceIte, go_sem]) | (simp (maxSteps := 1000000) (disch := first | omega | assumption) only [BB]) | with_reducible refine Gst.now ?_ | with_reducible refine vawp_draw mixed (by kernel_rfl) ?_ | with_reducible first | refine lwV_out ?_ | refine lwV_out0 ?_ | refine lkC_out ?_ | refine And.intro (by omega) ?_ | fail)
  split
  · rename_i h1
    rw [show min (max a 1).toNat sz = sz by omega] at hK
    have e1 : (sz < 1) = False := eq_false (by omega)
    repeat (first | (simp (maxSteps := 1000000) only [↓reduceIte, go_sem, e1]) | (simp (maxSteps := 1000000) (disch := first | omega | assumption) only [BB, e1]) | with_reducible refine Gst.now ?_ | with_reducible refine vawp_draw mixed (by kernel_rfl) ?_ | with_reducible first | refine lwV_out ?_ | refine lwV_out0 ?_ | refine lkC_out ?_ | refine And.intro (by omega) ?_ | fail)
    refine hq _ _ ?_
    repeat (first | (simp (maxSteps := 1000000) only [↓reduceIte, go_sem, e1]) | (simp (maxSteps := 1000000) (disch := first | omega | assumption) only [BB, e1]) | with_reducible refine Gst.now ?_ | with_reducible refine vawp_draw mixed (by kernel_rfl) ?_ | with_reducible first | refine lwV_out ?_ | refine lwV_out0 ?_ | refine lkC_out ?_ | refine And.intro (by omega) ?_ | fail)
    exact .now hK
  · rename_i h1
    repeat (first | (simp (maxSteps := 1000000) only [↓reduceIte, go_sem]) | (simp (maxSteps := 1000000) (disch := first | omega | assumption) only [BB]) | with_reducible refine Gst.now ?_ | with_reducible refine vawp_draw mixed (by kernel_rfl) ?_ | with_reducible first | refine lwV_out ?_ | refine lwV_out0 ?_ | refine lkC_out ?_ | refine And.intro (by omega) ?_ | fail)
    split
    · rename_i h2
      rw [show min (max a 1).toNat sz = 1 by omega] at hK
      repeat (first | (simp (maxSteps := 1000000) only [↓reduceIte, go_sem]) | (simp (maxSteps := 1000000) (disch := first | omega | assumption) only [BB]) | with_reducible refine Gst.now ?_ | with_reducible refine vawp_draw mixed (by kernel_rfl) ?_ | with_reducible first | refine lwV_out ?_ | refine lwV_out0 ?_ | refine lkC_out ?_ | refine And.intro (by omega) ?_ | fail)
      refine hq _ _ ?_
      repeat (first | (simp (maxSteps := 1000000) only [↓reduceIte, go_sem]) | (simp (maxSteps := 1000000) (disch := first | omega | assumption) only [BB]) | with_reducible refine Gst.now ?_ | with_reducible refine vawp_draw mixed (by kernel_rfl) ?_ | with_reducible first | refine lwV_out ?_ | refine lwV_out0 ?_ | refine lkC_out ?_ | refine And.intro (by omega) ?_ | fail)
      exact .now hK
    · rename_i h2
      obtain ⟨m, rfl⟩ := Int.eq_ofNat_of_zero_le (show 0 ≤ a by omega)
      simp only [Int.ofNat_eq_natCast] at *
      rw [show min (max (m : Int) 1).toNat sz = m by omega] at hK
      repeat (first | (simp (maxSteps := 1000000) only [↓reduceIte, go_sem]) | (simp (maxSteps := 1000000) (disch := first | omega | assumption) only [BB]) | with_reducible refine Gst.now ?_ | with_reducible refine vawp_draw mixed (by kernel_rfl) ?_ | with_reducible first | refine lwV_out ?_ | refine lwV_out0 ?_ | refine lkC_out ?_ | refine And.intro (by omega) ?_ | fail)
      refine hq _ _ ?_
      repeat (first | (simp (maxSteps := 1000000) only [↓reduceIte, go_sem]) | (simp (maxSteps := 1000000) (disch := first | omega | assumption) only [BB]) | with_reducible refine Gst.now ?_ | with_reducible refine vawp_draw mixed (by kernel_rfl) ?_ | with_reducible first | refine lwV_out ?_ | refine lwV_out0 ?_ | refine lkC_out ?_ | refine And.intro (by omega) ?_ | fail)
      exact .now hK
theorem alive_v (hK : ∀ h', K (.sc (.bool (true))) h') : VC Try.prog GL (n + 6) 7 [] h K := by
  refine VC_go Try.func7 rfl (by decide) Try.ntmps7 Try.results7 rfl fun Q hq hn => ?_
  repeat (first | (simp (maxSteps := 1000000) only [↓reduceIte, go_sem]) | (simp (maxSteps := 1000000) (disch := first | omega | assumption) only [BB]) | with_reducible refine Gst.now ?_ | with_reducible refine vawp_draw mixed (by kernel_rfl) ?_ | with_reducible first | refine lwV_out ?_ | refine lwV_out0 ?_ | refine lkC_out ?_ | refine And.intro (by omega) ?_ | fail)
  refine call_ok (new_v (sz := 6) (fun hc => absurd ⟨by decide, by decide⟩ hc) fun _ _ j r k n1 n2 n3 hj hr hk => ?_)
  repeat (first | (simp (maxSteps := 1000000) only [↓reduceIte, go_sem]) | (simp (maxSteps := 1000000) (disch := first | omega | assumption) only [BB]) | with_reducible refine Gst.now ?_ | with_reducible refine vawp_draw mixed (by kernel_rfl) ?_ | with_reducible first | refine lwV_out ?_ | refine lwV_out0 ?_ | refine lkC_out ?_ | refine And.intro (by omega) ?_ | fail)
  refine call_ok (new_v (sz := 4) (fun hc => ?_) (fun hc => absurd hc (by decide)))
  have hw := WrS_L (h0 := h) (sz := 6) (X := []) (L := [80, 75, 7, 8]) n1 n2 n3
  have hJ := hw.j
  repeat (first | (simp (maxSteps := 1000000) only [↓reduceIte, go_sem, hJ]) | (simp (maxSteps := 1000000) (disch := first | omega | assumption) only [BB, hJ]) | with_reducible refine Gst.now ?_ | with_reducible refine vawp_draw mixed (by kernel_rfl) ?_ | with_reducible first | refine lwV_out ?_ | refine lwV_out0 ?_ | refine lkC_out ?_ | refine And.intro (by omega) ?_ | fail)
  refine call_ok (next_v (a := 2) hw (by decide) (by decide) (by decide) ?_)
  rw [show placeW 6 (List.length (α := RowV) []) [80, 75, 7, 8].length (clampW 6 2) = (0, 4) from rfl]
  repeat (first | (simp (maxSteps := 1000000) only [↓reduceIte, go_sem]) | (simp (maxSteps := 1000000) (disch := first | omega | assumption) only [BB]) | with_reducible refine vawp_draw mixed (by kernel_rfl) ?_ | with_reducible first | refine lwV_out ?_ | refine lwV_out0 ?_ | refine lkC_out ?_ | refine And.intro (by omega) ?_ | fail)
  intro p hp
  repeat (first | (simp (maxSteps := 1000000) only [↓reduceIte, go_sem]) | (simp (maxSteps := 1000000) (disch := first | omega | assumption) only [BB]) | with_reducible refine vawp_draw mixed (by kernel_rfl) ?_ | with_reducible first | refine lwV_out ?_ | refine lwV_out0 ?_ | refine lkC_out ?_ | refine And.intro (by omega) ?_ | fail)
  refine .box 5 p hp rfl (.now ?_)
  repeat (first | (simp (maxSteps := 1000000) only [↓reduceIte, go_sem]) | (simp (maxSteps := 1000000) (disch := first | omega | assumption) only [BB]) | with_reducible refine Gst.now ?_ | with_reducible refine vawp_draw mixed (by kernel_rfl) ?_ | with_reducible first | refine lwV_out ?_ | refine lwV_out0 ?_ | refine lkC_out ?_ | refine And.intro (by omega) ?_ | fail)
  refine vBuildS_o bs33 ?_ ?_ ?_ ?_ ?_
  rfl
  rfl
  rfl
  rfl
  intro jb hjb
  repeat (first | (simp (maxSteps := 1000000) only [↓reduceIte, go_sem]) | (simp (maxSteps := 1000000) (disch := first | omega | assumption) only [BB]) | with_reducible first | refine lwV_out ?_ | refine lwV_out0 ?_ | refine lkC_out ?_ | fail)
  refine vConvF (by kernel_rfl) (by assumption) ?_
  repeat (first | (simp (maxSteps := 1000000) only [↓reduceIte, go_sem]) | (simp (maxSteps := 1000000) (disch := first | omega | assumption) only [BB]) | with_reducible refine Gst.now ?_ | with_reducible refine vawp_draw mixed (by kernel_rfl) ?_ | with_reducible first | refine lwV_out ?_ | refine lwV_out0 ?_ | refine lkC_out ?_ | refine And.intro (by omega) ?_ | fail)
  refine call_ok (record_v (b := [97, 98, 99]) n1 n2 n3 hj hr hk rfl (by decide) (by decide) (by decide) (by decide) (fun hc => absurd (by decide) hc) fun _ _ r k n1 n2 n3 hr hk => ?_)
  rw [show layW 6 [] [80, 75, 7, 8] [97, 98, 99] = ([⟨false, [80, 75, 7, 8]⟩], [97, 98, 99]) from rfl, show placeW 6 (List.length (α := RowV) []) [80, 75, 7, 8].length [97, 98, 99].length = (1, 0) from rfl]
  repeat (first | (simp (maxSteps := 1000000) only [↓reduceIte, go_sem]) | (simp (maxSteps := 1000000) (disch := first | omega | assumption) only [BB]) | with_reducible refine vawp_draw mixed (by kernel_rfl) ?_ | with_reducible first | refine lwV_out ?_ | refine lwV_out0 ?_ | refine lkC_out ?_ | refine And.intro (by omega) ?_ | fail)
  intro p hp
  repeat (first | (simp (maxSteps := 1000000) only [↓reduceIte, go_sem]) | (simp (maxSteps := 1000000) (disch := first | omega | assumption) only [BB]) | with_reducible refine vawp_draw mixed (by kernel_rfl) ?_ | with_reducible first | refine lwV_out ?_ | refine lwV_out0 ?_ | refine lkC_out ?_ | refine And.intro (by omega) ?_ | fail)
  refine .box 6 p hp rfl (.now ?_)
  repeat (first | (simp (maxSteps := 1000000) only [↓reduceIte, go_sem]) | (simp (maxSteps := 1000000) (disch := first | omega | assumption) only [BB]) | with_reducible refine Gst.now ?_ | with_reducible refine vawp_draw mixed (by kernel_rfl) ?_ | with_reducible first | refine lwV_out ?_ | refine lwV_out0 ?_ | refine lkC_out ?_ | refine And.intro (by omega) ?_ | fail)
  refine vBuildS_o bs33 ?_ ?_ ?_ ?_ ?_
  rfl
  rfl
  rfl
  rfl
  intro jb hjb
  repeat (first | (simp (maxSteps := 1000000) only [↓reduceIte, go_sem]) | (simp (maxSteps := 1000000) (disch := first | omega | assumption) only [BB]) | with_reducible first | refine lwV_out ?_ | refine lwV_out0 ?_ | refine lkC_out ?_ | fail)
  refine vConvF (by kernel_rfl) (by assumption) ?_
  repeat (first | (simp (maxSteps := 1000000) only [↓reduceIte, go_sem]) | (simp (maxSteps := 1000000) (disch := first | omega | assumption) only [BB]) | with_reducible refine Gst.now ?_ | with_reducible refine vawp_draw mixed (by kernel_rfl) ?_ | with_reducible first | refine lwV_out ?_ | refine lwV_out0 ?_ | refine lkC_out ?_ | refine And.intro (by omega) ?_ | fail)
  refine call_ok (record_v (b := [97, 98, 99, 100, 101, 102, 103]) n1 n2 n3 hj hr hk rfl (by decide) (by decide) (by decide) (by decide) (fun hc => ?_) fun _ hc => absurd hc (by decide))
  repeat (first | (simp (maxSteps := 1000000) only [↓reduceIte, go_sem]) | (simp (maxSteps := 1000000) (disch := first | omega | assumption) only [BB]) | with_reducible refine vawp_draw mixed (by kernel_rfl) ?_ | with_reducible first | refine lwV_out ?_ | refine lwV_out0 ?_ | refine lkC_out ?_ | refine And.intro (by omega) ?_ | fail)
  intro p hp
  repeat (first | (simp (maxSteps := 1000000) only [↓reduceIte, go_sem]) | (simp (maxSteps := 1000000) (disch := first | omega | assumption) only [BB]) | with_reducible refine vawp_draw mixed (by kernel_rfl) ?_ | with_reducible first | refine lwV_out ?_ | refine lwV_out0 ?_ | refine lkC_out ?_ | refine And.intro (by omega) ?_ | fail)
  refine .box 8 p hp rfl (.now ?_)
  repeat (first | (simp (maxSteps := 1000000) only [↓reduceIte, go_sem]) | (simp (maxSteps := 1000000) (disch := first | omega | assumption) only [BB]) | with_reducible refine Gst.now ?_ | with_reducible refine vawp_draw mixed (by kernel_rfl) ?_ | with_reducible first | refine lwV_out ?_ | refine lwV_out0 ?_ | refine lkC_out ?_ | refine And.intro (by omega) ?_ | fail)
  refine vBuildS_o bs33 ?_ ?_ ?_ ?_ ?_
  rfl
  rfl
  rfl
  rfl
  intro jb hjb
  repeat (first | (simp (maxSteps := 1000000) only [↓reduceIte, go_sem]) | (simp (maxSteps := 1000000) (disch := first | omega | assumption) only [BB]) | with_reducible first | refine lwV_out ?_ | refine lwV_out0 ?_ | refine lkC_out ?_ | fail)
  refine vConvF (by kernel_rfl) (by assumption) ?_
  repeat (first | (simp (maxSteps := 1000000) only [↓reduceIte, go_sem]) | (simp (maxSteps := 1000000) (disch := first | omega | assumption) only [BB]) | with_reducible refine Gst.now ?_ | with_reducible refine vawp_draw mixed (by kernel_rfl) ?_ | with_reducible first | refine lwV_out ?_ | refine lwV_out0 ?_ | refine lkC_out ?_ | refine And.intro (by omega) ?_ | fail)
  refine call_ok (data_v (b := [117, 118, 119, 120, 121, 122]) n1 n2 n3 hj hr hk rfl (by decide) (by decide) (by decide) (by decide) fun r k n1 n2 n3 hr hk => ?_)
  rw [show dataW 6 ([⟨false, [80, 75, 7, 8]⟩], [97, 98, 99]) [117, 118, 119, 120, 121, 122] = ([⟨false, [80, 75, 7, 8]⟩, ⟨false, [97, 98, 99, 117, 118, 119]⟩], [120, 121, 122]) from rfl, show placeW 6 (List.length (α := RowV) [⟨false, [80, 75, 7, 8]⟩]) [97, 98, 99].length 1 = (1, 3) from rfl]
  repeat (first | (simp (maxSteps := 1000000) only [↓reduceIte, go_sem]) | (simp (maxSteps := 1000000) (disch := first | omega | assumption) only [BB]) | with_reducible refine vawp_draw mixed (by kernel_rfl) ?_ | with_reducible first | refine lwV_out ?_ | refine lwV_out0 ?_ | refine lkC_out ?_ | refine And.intro (by omega) ?_ | fail)
  intro p hp
  repeat (first | (simp (maxSteps := 1000000) only [↓reduceIte, go_sem]) | (simp (maxSteps := 1000000) (disch := first | omega | assumption) only [BB]) | with_reducible refine vawp_draw mixed (by kernel_rfl) ?_ | with_reducible first | refine lwV_out ?_ | refine lwV_out0 ?_ | refine lkC_out ?_ | refine And.intro (by omega) ?_ | fail)
  refine .box 10 p hp rfl (.now ?_)
  repeat (first | (simp (maxSteps := 1000000) only [↓reduceIte, go_sem]) | (simp (maxSteps := 1000000) (disch := first | omega | assumption) only [BB]) | with_reducible refine Gst.now ?_ | with_reducible refine vawp_draw mixed (by kernel_rfl) ?_ | with_reducible first | refine lwV_out ?_ | refine lwV_out0 ?_ | refine lkC_out ?_ | refine And.intro (by omega) ?_ | fail)
  refine call_ok (rowS_v n1 n2 n3 (by decide) (fun x hx => ?_) (by decide) ?_)
  · simp at hx; rcases hx with rfl | rfl <;> exact ⟨rfl, by decide⟩
  rw [show [(⟨false, [80, 75, 7, 8]⟩ : RowV), ⟨false, [97, 98, 99, 117, 118, 119]⟩] ++ [⟨false, [120, 121, 122]⟩] = [⟨false, [80, 75, 7, 8]⟩, ⟨false, [97, 98, 99, 117, 118, 119]⟩, ⟨false, [120, 121, 122]⟩] from rfl]
  repeat (first | (simp (maxSteps := 1000000) only [↓reduceIte, go_sem]) | (simp (maxSteps := 1000000) (disch := first | omega | assumption) only [BB]) | with_reducible refine Gst.now ?_ | with_reducible refine vawp_draw mixed (by kernel_rfl) ?_ | with_reducible first | refine lwV_out ?_ | refine lwV_out0 ?_ | refine lkC_out ?_ | refine And.intro (by omega) ?_ | fail)
  refine vConv_u8 (xs := [80, 75, 7, 8]) us33 (by kernel_rfl) ut9 rfl ?_
  rw [show strN ([80, 75, 7, 8].map Int.ofNat) = ⟨#[80, 75, 7, 8]⟩ from rfl]
  repeat (first | (simp (maxSteps := 1000000) only [↓reduceIte, go_sem]) | (simp (maxSteps := 1000000) (disch := first | omega | assumption) only [BB]) | with_reducible refine Gst.now ?_ | with_reducible refine vawp_draw mixed (by kernel_rfl) ?_ | with_reducible first | refine lwV_out ?_ | refine lwV_out0 ?_ | refine lkC_out ?_ | refine And.intro (by omega) ?_ | fail)
  refine vConv_u8 (xs := [97, 98, 99, 117, 118, 119]) us33 (by kernel_rfl) ut9 rfl ?_
  rw [show strN ([97, 98, 99, 117, 118, 119].map Int.ofNat) = ⟨#[97, 98, 99, 117, 118, 119]⟩ from rfl]
  repeat (first | (simp (maxSteps := 1000000) only [↓reduceIte, go_sem]) | (simp (maxSteps := 1000000) (disch := first | omega | assumption) only [BB]) | with_reducible refine Gst.now ?_ | with_reducible refine vawp_draw mixed (by kernel_rfl) ?_ | with_reducible first | refine lwV_out ?_ | refine lwV_out0 ?_ | refine lkC_out ?_ | refine And.intro (by omega) ?_ | fail)
  refine vConv_u8 (xs := [120, 121, 122]) us33 (by kernel_rfl) ut9 rfl ?_
  rw [show strN ([120, 121, 122].map Int.ofNat) = ⟨#[120, 121, 122]⟩ from rfl]
  repeat (first | (simp (maxSteps := 1000000) only [↓reduceIte, go_sem]) | (simp (maxSteps := 1000000) (disch := first | omega | assumption) only [BB]) | with_reducible refine Gst.now ?_ | with_reducible refine vawp_draw mixed (by kernel_rfl) ?_ | with_reducible first | refine lwV_out ?_ | refine lwV_out0 ?_ | refine lkC_out ?_ | refine And.intro (by omega) ?_ | fail)
  refine hq _ _ ?_
  repeat (first | (simp (maxSteps := 1000000) only [↓reduceIte, go_sem]) | (simp (maxSteps := 1000000) (disch := first | omega | assumption) only [BB]) | with_reducible refine Gst.now ?_ | with_reducible refine vawp_draw mixed (by kernel_rfl) ?_ | with_reducible first | refine lwV_out ?_ | refine lwV_out0 ?_ | refine lkC_out ?_ | refine And.intro (by omega) ?_ | fail)
  exact .now (hK _)
structure InvS (sz : Nat) (S : List RowV × List Nat) (N : Nat) : Prop where
  hL : S.2.length ≤ sz
  hX : S.1.length ≤ N
  hO : ∀ x ∈ S.1, x.nl = false ∧ x.bs.length ≤ sz
theorem InvS.mono {sz : Nat} {S : List RowV × List Nat} {N M : Nat} (h : InvS sz S N) (hm : N ≤ M) : InvS sz S M := ⟨h.hL, Nat.le_trans h.hX hm, h.hO⟩
theorem InvS.lay {sz : Nat} {X : List RowV} {L b : List Nat} {N : Nat} (h : InvS sz (X, L) N) (hb : b.length ≤ sz) : InvS sz (layW sz X L b) (N + 1) := by
  have hl := layW_len (X := X) h.hL hb
  refine ⟨hl.1, Nat.le_trans hl.2 (Nat.succ_le_succ h.hX), fun x hx => ?_⟩
  unfold layW at hx
  split at hx
  · rcases List.mem_append.1 hx with h1 | h1
    · exact h.hO x h1
    · rw [List.mem_singleton] at h1; subst h1; exact ⟨rfl, h.hL⟩
  · exact h.hO x hx
theorem InvS.data {sz : Nat} (hsz : 1 ≤ sz) : ∀ {b : List Nat} {X : List RowV} {L : List Nat} {N : Nat}, InvS sz (X, L) N → InvS sz (dataW sz (X, L) b) (N + b.length)
  | [], X, L, N, h => h
  | c :: b, X, L, N, h => by
    show InvS sz (dataW sz (byteW sz (X, L) c) b) _
    unfold byteW
    split
    · rename_i h1
      have h1' : L.length = sz := h1
      have := InvS.data hsz (b := b) (X := X ++ [⟨false, L⟩]) (L := [c]) (N := N + 1) ⟨by simpa using hsz, by simpa using h.hX, fun x hx => by
        rcases List.mem_append.1 hx with h2 | h2
        · exact h.hO x h2
        · rw [List.mem_singleton] at h2; subst h2; exact ⟨rfl, h.hL⟩⟩
      exact this.mono (by simp; omega)
    · rename_i h1
      have h1' : ¬ L.length = sz := h1
      have := InvS.data hsz (b := b) (X := X) (L := L ++ [c]) (N := N) ⟨by have := h.hL; simp at this ⊢; omega, h.hX, h.hO⟩
      exact this.mono (by simp)
theorem InvS.ok {sz : Nat} {S : List RowV × List Nat} {N : Nat} (h : InvS sz S N) (hs : sz ≤ 16777216) : ∀ x ∈ S.1, OkRow x := fun x hx => ⟨(h.hO x hx).1, Nat.le_trans (h.hO x hx).2 hs⟩
theorem few_len {os : List OpS} (h : fewO os = true) : os.length ≤ 20 ∧ ∀ o ∈ os, o.b.bs.length ≤ 60 := by
  unfold fewO at h
  rw [Bool.and_eq_true, List.all_eq_true] at h
  exact ⟨of_decide_eq_true h.2, fun o ho => of_decide_eq_true (h.1 o ho)⟩
end
end Go.Proofs.Ytbmikefignmkdaa.VLaw
