/- the laws of chapter 13, over the machine of values: the example. -/
import Derived.Test.YtipeglbklhincaaDoorProg
import Derived.Test.YtipeglbklhincaaDoorAbV16
import Derived.Test.YtipeglbklhincaaDoorAbFacts
import Derived.Test.YtipeglbklhincaaDoorAbVG
import Derived.Test.YtipeglbklhincaaDoorAbVRow1
import Derived.Test.YtipeglbklhincaaDoorAbVSame
import Derived.Test.YtipeglbklhincaaDoorAbVMatch
import Derived.Test.YtipeglbklhincaaDoorAbVMatchB
import Derived.Test.YtipeglbklhincaaDoorAbVMatchC
import Derived.Test.YtipeglbklhincaaDoorAbVMatchD
import Derived.Test.YtipeglbklhincaaDoorAbVFind
import Derived.Test.YtipeglbklhincaaDoorAbVFindB
import Derived.Test.YtipeglbklhincaaDoorAbVFindP
import Derived.Test.YtipeglbklhincaaDoorAbVFindC
import Derived.KernelRfl
import Derived.Laws.BitsAllLaws
set_option linter.unusedVariables false
set_option linter.unusedSimpArgs false
set_option maxRecDepth 100000
set_option maxHeartbeats 4000000
namespace Go.Proofs.YtipeglbklhincaaDoor.VLaw
open Go.RowKit Go.Proofs.AbM Go.Proofs.YtipeglbklhincaaDoor.Facts Go.Proofs.YtipeglbklhincaaDoor.VG Go.Proofs.YtipeglbklhincaaDoor.VRow1 Go.Proofs.YtipeglbklhincaaDoor.VSame Go.Proofs.YtipeglbklhincaaDoor.VMatch Go.Proofs.YtipeglbklhincaaDoor.VMatchB Go.Proofs.YtipeglbklhincaaDoor.VMatchC Go.Proofs.YtipeglbklhincaaDoor.VMatchD Go.Proofs.YtipeglbklhincaaDoor.VFind Go.Proofs.YtipeglbklhincaaDoor.VFindB Go.Proofs.YtipeglbklhincaaDoor.VFindP Go.Proofs.YtipeglbklhincaaDoor.VFindC
attribute [local go_sem] vawp_skip_eq vawp_seq_eq vawp_region_eq vawp_cond_g vawp_block_eq vawp_exit_eq vawp_ret_eq thenV_ret thenV_exit thenV_normal inBlockV_normal inBlockV_ret inBlockV_exit resKV_nil resKV_tmp resKV_cell oneV_one oneV_nil oneV_more initV_nil initV_cons updV_at evv_tmp evv_func evv_global evv_int evv_bool evv_str evv_snil evv_pnil evv_agg ofV3_int ofV3_bool ofV3_str ofV3_snil ofV3_pnil vok_tmp vok_func vok_global vok_int vok_bool vok_str vok_snil vok_pnil vok_agg cloV3_int cloV3_bool cloV3_str cloV3_snil cloV3_pnil voks_nil voks_cons scV_int scV_bool scV_str isBlV_b isBV_t isBV_f lwV_none lwV_sc lwV_agg lwV_tup lwV_isl lwV_own lwV_op lwV_ip lwV_fn lwV_junk vops_nil vops_n vops_s gsN_eq vop dstOk_some dstOk_none pkV_b blkV_set eRead_f eRead_t vLoad_op vLoad_ip vStore_op cells_sc cells_isl cells_own cells_op cells_ip cells_fn cells_agg parts_sc parts_isl parts_own parts_op parts_ip parts_fn parts_agg one_sc one_isl one_own one_op one_ip one_fn vField_op vField_ip ePart_f ePart_t vFieldV_agg vIx_isl vIx_own vIx_op vIx_ip vIxV_agg vIxV_str vLen_str vLen_isl vLen_own vLen_agg bndE_none bndE_int vSlice_isl vSlice_str vBin_add vBin_sub vBin_mul vBin_quo vBin_rem vBin_and vBin_or vBin_xor vBin_andNot vBin_eql vBin_neq vBin_lss vBin_leq vBin_gtr vBin_geq vBin_shr_i8 vBin_shl_i8 vBin_shr_i16 vBin_shl_i16 vBin_shr_i32 vBin_shl_i32 vBin_shr_i64 vBin_shl_i64 vBin_shr_u8 vBin_shl_u8 vBin_shr_u16 vBin_shl_u16 vBin_shr_u32 vBin_shl_u32 vBin_shr_u64 vBin_shl_u64 vBin_seq vBin_sne vBin_isln vBin_opn vBin_ipn ex_sc ex_sc2 ex_sc3 ex_tup calleeV wSc_pb wSc_pi wSc_not wSc_neg wSc_com wSc_min2 wSc_max2 vfold_nil vfold_one vfold_cons vfill_nil vfill_e eFill_s vBuild vBox vAlloc setV_map setV_zs setV_zn setV_s hset_hset eConv_ss vConv_e iv_eq ivI_eq ex_get ex_getI set_iv set_ivI okNil isNilV isSlV hdel_at hset_at List.map_toArray List.map_cons List.map_nil List.nil_append List.cons_append List.append_nil List.toList_toArray List.getElem?_toArray List.getElem_toArray List.getElem_cons_zero List.getElem_cons_succ List.getElem?_cons_zero List.getElem?_cons_succ List.set_cons_zero List.set_cons_succ List.set_set List.length_cons List.length_nil List.length_set List.length_map List.all_cons List.all_nil List.drop_zero List.drop_succ_cons List.take_succ_cons List.take_zero List.flatMap_cons Bool.and_eq_true true_and and_true if_true if_false ite_true ite_false forall_eq' forall_eq exists_eq_left exists_eq_left' exists_eq' Value.bool.injEq Value.int.injEq Value.string.injEq Value.pointer.injEq Option.some.injEq AV.sc.injEq AV.op.injEq AV.ip.injEq AV.own.injEq AV.agg.injEq VB.cells.injEq VB.iter.injEq Prod.mk.injEq decide_eq_true_eq decide_eq_false_iff_not Nat.reduceEqDiff Nat.reduceLT Nat.reduceLeDiff Nat.reduceSub Nat.reduceBEq reduceIte Int.reduceLE Int.reduceLT Int.reduceToNat Int.reduceNeg Int.reduceEq Int.reduceNe Int.cast_ofNat_Int Nat.reduceMul Nat.reduceAdd Nat.reduceDiv Nat.reduceMod Nat.reducePow Int.reduceSub Int.reduceAdd Int.reduceMul Int.reducePow Option.isSome_some Option.isSome_none Option.bind_some Option.map_some Option.map_none Option.toList_some Option.toList_none true_or or_true or_false false_or Bool.not_true Bool.not_false Bool.not_eq_true Bool.false_eq_true Bool.not_not false_implies true_implies implies_true Nat.zero_add Nat.add_zero Nat.mul_one Bool.not_eq_true' Bool.true_eq_false Bool.and_true Bool.true_and Bool.and_false Bool.false_and Bool.or_true Bool.true_or Bool.or_false Bool.false_or Option.isNone_some Option.isNone_none Int.reduceBEq Int.reduceBNe beq_self_eq_true bne_self_eq_false beq_iff_eq not_false_eq_true not_true_eq_false Decidable.not_not bne_iff_ne ne_eq Int.toNat_natCast gt_lt ge_le c_add c_mul c_sub c_addn c_nadd c_muln c_nmul c_subn c_nsub c_divn c_modn c_div c_mod c_tdivn c_tmodn c_tdiv c_tmod c_pow c_nn c_beq c_beqn c_bne c_bnen wr64 wr32 wru64 wru32 wru16 wru8 c_if c_if1 c_if2 c_lt c_le c_eq c_ltn c_len c_nlt c_nle c_eqn m_drop m_take Nat.add_sub_cancel_left Nat.add_sub_cancel Int.reduceTMod Int.reduceTDiv Int.reduceMod Int.reduceDiv isC_some hset_ne hdel_ne hdel_hset hdel_hset_ne blkV_nset blkV_ndel hset_hdel gV_t gV_f isGdV_b isGdV_u isBV_u isGdV_g isBV_gt isBV_gf decide_true decide_false Bool.or_eq_false_iff eq_self Nat.lt_irrefl Int.lt_irrefl Nat.le_refl Int.le_refl
attribute [local go_sem high] vops_pk vops_mv vops_as vops_smv pk_and pk_or pk_gand pk_gor pk_orn pk_gorn
attribute [local go_sem] ag3 sz3 zc3 ik3 ag4 sz4 zc4 ag5 sz5 zc5 ik5 ag9 sz9 zc9 iq9 ag22 sz22 el22 zc22 is22 ag23 sz23 el23 zc23 is23 ag25 sz25 zc25 ik25 ag41 sz41 zc41 eqs41 nes41 bo41 ag44 sz44 zc44 pt44 ag45 sz45 ea45 an45 zc45 bo45 ag46 sz46 el46 zc46 is46 ag47 sz47 ea47 an47 ag49 sz49 ag55 sz55 zc55 ik55 of41_0 fd41_0 of41_1 fd41_1 of41_2 fd41_2 of49_0 fd49_0 of49_1 fd49_1 of49_2 fd49_2 of49_3 fd49_3 eqb neb
section
variable {n : Nat} {h : VH} {K : AV → VH → Prop}
attribute [local go_sem] Nat.zero_le tokC tok_len
def abc : List Nat := [97, 98, 99, 97, 98, 99, 97, 98, 99]
theorem find_abc : findF abc 1024 = [⟨97, 0, 0⟩, ⟨98, 0, 0⟩, ⟨99, 0, 0⟩, ⟨0, 6, 3⟩] := by kernel_rfl
theorem find_aaaa : findF [97, 97, 97, 97] 0 = [⟨97, 0, 0⟩, ⟨97, 0, 0⟩, ⟨97, 0, 0⟩, ⟨97, 0, 0⟩] := by kernel_rfl
theorem chD9 : chD 9 = 1024 := by decide
theorem chD0 : chD 0 = 0 := by decide
theorem alive_v (hK : K (.sc (.bool (true))) h) : VC Tryd.prog GL (n + 5) 8 [] h K := by
  refine VC_go Tryd.func8 rfl (by decide) Tryd.ntmps8 Tryd.results8 rfl fun Q hq hn => ?_
  repeat (first | (simp (maxSteps := 1000000) only [↓reduceIte, go_sem]) | (simp (maxSteps := 1000000) (disch := first | omega | assumption) only [BB]) | with_reducible refine Gst.now ?_ | with_reducible refine vawp_draw mixed (by kernel_rfl) ?_ | with_reducible first | refine lwV_out ?_ | refine lwV_out0 ?_ | refine lkC_out ?_ | refine And.intro (by omega) ?_ | fail)
  refine vBuildS_o bs23 ?_ ?_ ?_ ?_ ?_
  rfl
  rfl
  rfl
  rfl
  intro jb hjb
  repeat (first | (simp (maxSteps := 1000000) only [↓reduceIte, go_sem]) | (simp (maxSteps := 1000000) (disch := first | omega | assumption) only [BB]) | with_reducible first | refine lwV_out ?_ | refine lwV_out0 ?_ | refine lkC_out ?_ | fail)
  refine vConvF (by kernel_rfl) (by assumption) ?_
  repeat (first | (simp (maxSteps := 1000000) only [↓reduceIte, go_sem]) | (simp (maxSteps := 1000000) (disch := first | omega | assumption) only [BB]) | with_reducible refine Gst.now ?_ | with_reducible refine vawp_draw mixed (by kernel_rfl) ?_ | with_reducible first | refine lwV_out ?_ | refine lwV_out0 ?_ | refine lkC_out ?_ | refine And.intro (by omega) ?_ | fail)
  with_reducible refine call_ok ?_
  refine find_v (b := abc) (level := 9) rfl (by decide) (by decide) fun nl => ?_
  rw [chD9]
  generalize hts : findF abc 1024 = ts
  rw [find_abc] at hts
  have x1 : expT ts 9 [] = (0, abc) := by rw [← hts]; kernel_rfl
  have x2 : (expT ts 8 []).1 = 6 := by rw [← hts]; kernel_rfl
  have x3 : bytesT ts = 9 := by rw [← hts]; kernel_rfl
  have x4 : ts.length = 4 := by rw [← hts]; rfl
  have x5 : ((ts.flatMap tokC).drop 9).take 3 = [(.sc (.int .u8 (0))), (.sc (.int .i64 (6))), (.sc (.int .i64 (3)))] := by rw [← hts]; rfl
  have x6 : (expT [⟨0, 3, 1⟩] 9 []).1 = 35 := by kernel_rfl
  have x7 : (expT [⟨0, 2, 1⟩] 9 []).1 = 23 := by kernel_rfl
  have x8 : sameN [97, 98, 97, 98] 0 2 = 2 := by decide
  repeat (first | (simp (maxSteps := 1000000) only [↓reduceIte, go_sem]) | (simp (maxSteps := 1000000) (disch := first | omega | assumption) only [BB]) | with_reducible refine Gst.now ?_ | with_reducible refine vawp_draw mixed (by kernel_rfl) ?_ | with_reducible first | refine lwV_out ?_ | refine lwV_out0 ?_ | refine lkC_out ?_ | refine And.intro (by omega) ?_ | fail)
  with_reducible refine call_ok ?_
  refine expand_v (ts := ts) (most := 9) rfl (by omega) (by omega) (by omega) fun nl2 => ?_
  rw [x1]
  repeat (first | (simp (maxSteps := 1000000) only [↓reduceIte, go_sem]) | (simp (maxSteps := 1000000) (disch := first | omega | assumption) only [BB]) | with_reducible refine Gst.now ?_ | with_reducible refine vawp_draw mixed (by kernel_rfl) ?_ | with_reducible first | refine lwV_out ?_ | refine lwV_out0 ?_ | refine lkC_out ?_ | refine And.intro (by omega) ?_ | fail)
  with_reducible refine call_ok ?_
  refine expand_v (ts := ts) (most := 8) rfl (by omega) (by omega) (by omega) fun nl3 => ?_
  rw [x2]
  generalize (expT ts 8 []).2 = u8
  repeat (first | (simp (maxSteps := 1000000) only [↓reduceIte, go_sem]) | (simp (maxSteps := 1000000) (disch := first | omega | assumption) only [BB]) | with_reducible refine Gst.now ?_ | with_reducible refine vawp_draw mixed (by kernel_rfl) ?_ | with_reducible first | refine lwV_out ?_ | refine lwV_out0 ?_ | refine lkC_out ?_ | refine And.intro (by omega) ?_ | fail)
  refine vBuildS_isl' bs22 (by decide) ⟨tokC ⟨0, 3, 1⟩, rfl, rfl, ?_⟩
  repeat (first | (simp (maxSteps := 1000000) only [↓reduceIte, go_sem]) | (simp (maxSteps := 1000000) (disch := first | omega | assumption) only [BB]) | with_reducible refine Gst.now ?_ | with_reducible refine vawp_draw mixed (by kernel_rfl) ?_ | with_reducible first | refine lwV_out ?_ | refine lwV_out0 ?_ | refine lkC_out ?_ | refine And.intro (by omega) ?_ | fail)
  with_reducible refine call_ok ?_
  refine expand_v (ts := [⟨0, 3, 1⟩]) (most := 9) rfl (by decide) (by omega) (by omega) fun nl4 => ?_
  rw [x6]
  generalize (expT [⟨0, 3, 1⟩] 9 []).2 = u9
  repeat (first | (simp (maxSteps := 1000000) only [↓reduceIte, go_sem]) | (simp (maxSteps := 1000000) (disch := first | omega | assumption) only [BB]) | with_reducible refine Gst.now ?_ | with_reducible refine vawp_draw mixed (by kernel_rfl) ?_ | with_reducible first | refine lwV_out ?_ | refine lwV_out0 ?_ | refine lkC_out ?_ | refine And.intro (by omega) ?_ | fail)
  refine vBuildS_isl' bs22 (by decide) ⟨tokC ⟨0, 2, 1⟩, rfl, rfl, ?_⟩
  repeat (first | (simp (maxSteps := 1000000) only [↓reduceIte, go_sem]) | (simp (maxSteps := 1000000) (disch := first | omega | assumption) only [BB]) | with_reducible refine Gst.now ?_ | with_reducible refine vawp_draw mixed (by kernel_rfl) ?_ | with_reducible first | refine lwV_out ?_ | refine lwV_out0 ?_ | refine lkC_out ?_ | refine And.intro (by omega) ?_ | fail)
  with_reducible refine call_ok ?_
  refine expand_v (ts := [⟨0, 2, 1⟩]) (most := 9) rfl (by decide) (by omega) (by omega) fun nl5 => ?_
  rw [x7]
  generalize (expT [⟨0, 2, 1⟩] 9 []).2 = u10
  have e1 := x4
  have e2 : ((ts.flatMap tokC).drop 9).take 3 = [(.sc (.int .u8 (0))), (.sc (.int .i64 (6))), (.sc (.int .i64 (3)))] := x5
  repeat (first | (simp (maxSteps := 1000000) only [↓reduceIte, go_sem, e1, e2]) | (simp (maxSteps := 1000000) (disch := first | omega | assumption) only [BB, e1, e2]) | with_reducible refine Gst.now ?_ | with_reducible refine vawp_draw mixed (by kernel_rfl) ?_ | with_reducible first | refine lwV_out ?_ | refine lwV_out0 ?_ | refine lkC_out ?_ | refine And.intro (by omega) ?_ | fail)
  refine vConv_u8 (xs := abc) rfl rfl rfl rfl ?_
  have e3 : ((strN (List.map Int.ofNat abc)).toList = ByteArray.toList { data := #[97, 98, 99, 97, 98, 99, 97, 98, 99] }) = True := eq_true (by kernel_rfl)
  repeat (first | (simp (maxSteps := 1000000) only [↓reduceIte, go_sem, e1, e2, e3]) | (simp (maxSteps := 1000000) (disch := first | omega | assumption) only [BB, e1, e2, e3]) | with_reducible refine Gst.now ?_ | with_reducible refine vawp_draw mixed (by kernel_rfl) ?_ | with_reducible first | refine lwV_out ?_ | refine lwV_out0 ?_ | refine lkC_out ?_ | refine And.intro (by omega) ?_ | fail)
  refine vBuildS_o bs23 ?_ ?_ ?_ ?_ ?_
  rfl
  rfl
  rfl
  rfl
  intro jb hjb
  repeat (first | (simp (maxSteps := 1000000) only [↓reduceIte, go_sem]) | (simp (maxSteps := 1000000) (disch := first | omega | assumption) only [BB]) | with_reducible first | refine lwV_out ?_ | refine lwV_out0 ?_ | refine lkC_out ?_ | fail)
  refine vConvF (by kernel_rfl) (by assumption) ?_
  repeat (first | (simp (maxSteps := 1000000) only [↓reduceIte, go_sem]) | (simp (maxSteps := 1000000) (disch := first | omega | assumption) only [BB]) | with_reducible refine Gst.now ?_ | with_reducible refine vawp_draw mixed (by kernel_rfl) ?_ | with_reducible first | refine lwV_out ?_ | refine lwV_out0 ?_ | refine lkC_out ?_ | refine And.intro (by omega) ?_ | fail)
  with_reducible refine call_ok ?_
  refine msame_v (b := [97, 98, 97, 98]) (i := 0) (k := 2) rfl (by decide) ?_
  rw [x8]
  repeat (first | (simp (maxSteps := 1000000) only [↓reduceIte, go_sem, e1, e2, e3]) | (simp (maxSteps := 1000000) (disch := first | omega | assumption) only [BB, e1, e2, e3]) | with_reducible refine Gst.now ?_ | with_reducible refine vawp_draw mixed (by kernel_rfl) ?_ | with_reducible first | refine lwV_out ?_ | refine lwV_out0 ?_ | refine lkC_out ?_ | refine And.intro (by omega) ?_ | fail)
  with_reducible refine call_ok ?_
  refine mbytes_v (ts := ts) x4.symm (by omega) ?_
  rw [x3]
  repeat (first | (simp (maxSteps := 1000000) only [↓reduceIte, go_sem, e1, e2, e3]) | (simp (maxSteps := 1000000) (disch := first | omega | assumption) only [BB, e1, e2, e3]) | with_reducible refine Gst.now ?_ | with_reducible refine vawp_draw mixed (by kernel_rfl) ?_ | with_reducible first | refine lwV_out ?_ | refine lwV_out0 ?_ | refine lkC_out ?_ | refine And.intro (by omega) ?_ | fail)
  refine vBuildS_o bs23 ?_ ?_ ?_ ?_ ?_
  rfl
  rfl
  rfl
  rfl
  intro jb hjb
  repeat (first | (simp (maxSteps := 1000000) only [↓reduceIte, go_sem]) | (simp (maxSteps := 1000000) (disch := first | omega | assumption) only [BB]) | with_reducible first | refine lwV_out ?_ | refine lwV_out0 ?_ | refine lkC_out ?_ | fail)
  refine vConvF (by kernel_rfl) (by assumption) ?_
  repeat (first | (simp (maxSteps := 1000000) only [↓reduceIte, go_sem]) | (simp (maxSteps := 1000000) (disch := first | omega | assumption) only [BB]) | with_reducible refine Gst.now ?_ | with_reducible refine vawp_draw mixed (by kernel_rfl) ?_ | with_reducible first | refine lwV_out ?_ | refine lwV_out0 ?_ | refine lkC_out ?_ | refine And.intro (by omega) ?_ | fail)
  with_reducible refine call_ok ?_
  refine find_v (b := [97, 97, 97, 97]) (level := 0) rfl (by decide) (by decide) fun nl6 => ?_
  rw [chD0, find_aaaa]
  repeat (first | (simp (maxSteps := 1000000) only [↓reduceIte, go_sem, e1, e2, e3]) | (simp (maxSteps := 1000000) (disch := first | omega | assumption) only [BB, e1, e2, e3]) | with_reducible refine Gst.now ?_ | with_reducible refine vawp_draw mixed (by kernel_rfl) ?_ | with_reducible first | refine lwV_out ?_ | refine lwV_out0 ?_ | refine lkC_out ?_ | refine And.intro (by omega) ?_ | fail)
  refine hq _ _ ?_
  repeat (first | (simp (maxSteps := 1000000) only [↓reduceIte, go_sem, e1, e2, e3]) | (simp (maxSteps := 1000000) (disch := first | omega | assumption) only [BB, e1, e2, e3]) | with_reducible refine Gst.now ?_ | with_reducible refine vawp_draw mixed (by kernel_rfl) ?_ | with_reducible first | refine lwV_out ?_ | refine lwV_out0 ?_ | refine lkC_out ?_ | refine And.intro (by omega) ?_ | fail)
  exact .now hK
theorem lcp_comm : ∀ (m : Nat) (xs ys : List Nat), lcp m xs ys = lcp m ys xs
  | 0, _, _ => by simp [lcp]
  | m + 1, [], ys => by cases ys <;> simp [lcp]
  | m + 1, x :: xs, [] => by simp [lcp]
  | m + 1, x :: xs, y :: ys => by
    simp only [lcp, lcp_comm m xs ys]
    by_cases h : x = y
    · rw [if_pos h, if_pos h.symm]
    · rw [if_neg h, if_neg (Ne.symm h)]
theorem lcp_self : ∀ (m : Nat) (xs : List Nat), lcp m xs xs = min xs.length m
  | 0, _ => by simp [lcp]
  | m + 1, [] => by simp [lcp]
  | m + 1, x :: xs => by
    simp only [lcp, lcp_self m xs, if_true, List.length_cons]
    omega
theorem lcp_more : ∀ (m : Nat) (xs ys : List Nat), lcp m xs ys < m → lcp (m + 1) xs ys = lcp m xs ys
  | 0, _, _, h => by omega
  | m + 1, [], ys, _ => by cases ys <;> simp [lcp]
  | m + 1, x :: xs, [], _ => by simp [lcp]
  | m + 1, x :: xs, y :: ys, h => by
    simp only [lcp] at h
    show (if x = y then lcp (m + 1) xs ys + 1 else 0) = if x = y then lcp m xs ys + 1 else 0
    by_cases hx : x = y
    · rw [if_pos hx] at h ⊢
      rw [if_pos hx, lcp_more m xs ys (by omega)]
    · rw [if_neg hx, if_neg hx]
theorem sameN_comm (b : List Nat) (i k : Int) : sameN b i k = sameN b k i := by
  unfold sameN
  rw [lcp_comm]
  by_cases hc : i < 0 ∨ k < 0 ∨ (b.length : Int) < i ∨ (b.length : Int) < k
  · rw [if_pos hc, if_pos (by omega)]
  · rw [if_neg hc, if_neg (by omega)]
theorem sameN_258 (b : List Nat) (i k : Int) : sameN b i k ≤ 258 := by
  unfold sameN
  split
  · omega
  · exact (lcp_le _ _ _).1
theorem sameN_nat {b : List Nat} {i k : Nat} (hi : i ≤ b.length) (hk : k ≤ b.length) : sameN b i k = lcp 258 (b.drop i) (b.drop k) := by
  unfold sameN
  rw [if_neg (by omega), Int.toNat_natCast, Int.toNat_natCast]
theorem sameN_self {b : List Nat} {i : Nat} (hi : i ≤ b.length) : sameN b i i = min (b.length - i) 258 := by
  rw [sameN_nat hi hi, lcp_self, List.length_drop]
theorem sameN_next {b : List Nat} {i k : Nat} (hi : i ≤ b.length) (hk : k ≤ b.length) (h0 : sameN b i k ≠ 0) (h1 : sameN b i k ≠ 258) : sameN b ((i + 1 : Nat) : Int) ((k + 1 : Nat) : Int) + 1 = sameN b i k := by
  have hle := sameN_258 b i k
  rw [sameN_nat hi hk] at h0 h1 hle ⊢
  have hi1 : i < b.length := Nat.lt_of_not_le fun hh => h0 (lcp_stop (.inr (.inl hh)))
  have hk1 : k < b.length := Nat.lt_of_not_le fun hh => h0 (lcp_stop (.inr (.inr hh)))
  rw [sameN_nat (by omega) (by omega)]
  rw [lcp_step hi1 hk1] at h0 h1 hle ⊢
  by_cases hx : b.getD i 0 = b.getD k 0
  · rw [if_pos hx] at h0 h1 hle ⊢
    rw [lcp_more 257 _ _ (by omega)]
  · rw [if_neg hx] at h0; exact absurd rfl h0
theorem sames_v {nl : Bool} {l : Nat} {b : List Nat} {i k : Int} (hl : l = b.length) (hb : b.length ≤ 140737488355328) (hK : ∀ v, v = true → K (.sc (.bool (v))) h) : VC Tryd.prog GL (n + 6) 6 [.isl nl l (b.map (iv .u8)), (.sc (.int .i64 (i))), (.sc (.int .i64 (k)))] h K := by
  refine VC_go Tryd.func6 rfl (by decide) Tryd.ntmps6 Tryd.results6 rfl fun Q hq hn => ?_
  subst hl
  repeat (first | (simp (maxSteps := 1000000) only [↓reduceIte, go_sem]) | (simp (maxSteps := 1000000) (disch := first | omega | assumption) only [BB]) | with_reducible refine Gst.now ?_ | with_reducible refine vawp_draw mixed (by kernel_rfl) ?_ | with_reducible first | refine lwV_out ?_ | refine lwV_out0 ?_ | refine lkC_out ?_ | refine And.intro (by omega) ?_ | fail)
  with_reducible refine call_ok ?_
  refine alive_v ?_
  repeat (first | (simp (maxSteps := 1000000) only [↓reduceIte, go_sem]) | (simp (maxSteps := 1000000) (disch := first | omega | assumption) only [BB]) | with_reducible refine Gst.now ?_ | with_reducible refine vawp_draw mixed (by kernel_rfl) ?_ | with_reducible first | refine lwV_out ?_ | refine lwV_out0 ?_ | refine lkC_out ?_ | refine And.intro (by omega) ?_ | fail)
  split
  · repeat (first | (simp (maxSteps := 1000000) only [↓reduceIte, go_sem]) | (simp (maxSteps := 1000000) (disch := first | omega | assumption) only [BB]) | with_reducible refine Gst.now ?_ | with_reducible refine vawp_draw mixed (by kernel_rfl) ?_ | with_reducible first | refine lwV_out ?_ | refine lwV_out0 ?_ | refine lkC_out ?_ | refine And.intro (by omega) ?_ | fail)
    refine hq _ _ ?_
    repeat (first | (simp (maxSteps := 1000000) only [↓reduceIte, go_sem]) | (simp (maxSteps := 1000000) (disch := first | omega | assumption) only [BB]) | with_reducible refine Gst.now ?_ | with_reducible refine vawp_draw mixed (by kernel_rfl) ?_ | with_reducible first | refine lwV_out ?_ | refine lwV_out0 ?_ | refine lkC_out ?_ | refine And.intro (by omega) ?_ | fail)
    exact .now (hK _ rfl)
  · rename_i h600
    have h600 : b.length ≤ 600 := by simpa using h600
    repeat (first | (simp (maxSteps := 1000000) only [↓reduceIte, go_sem]) | (simp (maxSteps := 1000000) (disch := first | omega | assumption) only [BB]) | with_reducible refine Gst.now ?_ | with_reducible refine vawp_draw mixed (by kernel_rfl) ?_ | with_reducible first | refine lwV_out ?_ | refine lwV_out0 ?_ | refine lkC_out ?_ | refine And.intro (by omega) ?_ | fail)
    with_reducible refine call_ok ?_
    refine msame_v (i := i) (k := k) rfl hb ?_
    have hcm := sameN_comm b k i
    have hle := sameN_258 b i k
    generalize hnn : sameN b i k = nn at *
    repeat (first | (simp (maxSteps := 1000000) only [↓reduceIte, go_sem]) | (simp (maxSteps := 1000000) (disch := first | omega | assumption) only [BB]) | with_reducible refine Gst.now ?_ | with_reducible refine vawp_draw mixed (by kernel_rfl) ?_ | with_reducible first | refine lwV_out ?_ | refine lwV_out0 ?_ | refine lkC_out ?_ | refine And.intro (by omega) ?_ | fail)
    with_reducible refine call_ok ?_
    refine msame_v (i := k) (k := i) rfl hb ?_
    rw [hcm]
    have e1 : (258 < nn) = False := eq_false (by omega)
    have e2 : (nn < 0) = False := eq_false (by omega)
    repeat (first | (simp (maxSteps := 1000000) only [↓reduceIte, go_sem, e1, e2]) | (simp (maxSteps := 1000000) (disch := first | omega | assumption) only [BB, e1, e2]) | with_reducible refine vawp_draw mixed (by kernel_rfl) ?_ | with_reducible first | refine lwV_out ?_ | refine lwV_out0 ?_ | refine lkC_out ?_ | refine And.intro (by omega) ?_ | fail)
    first | (with_reducible refine Gst.now ?_) | (with_reducible refine lkC_out ?_; simp only [vawp_skip_eq, thenV_normal]; with_reducible refine Gst.now ?_) | (with_reducible refine lkC_out ?_)
    repeat (first | (simp (maxSteps := 1000000) only [↓reduceIte, go_sem, e1, e2]) | (simp (maxSteps := 1000000) (disch := first | omega | assumption) only [BB, e1, e2]) | with_reducible refine vawp_draw mixed (by kernel_rfl) ?_ | with_reducible first | refine lwV_out ?_ | refine lwV_out0 ?_ | refine lkC_out ?_ | refine And.intro (by omega) ?_ | fail)
    first | (with_reducible refine Gst.now ?_) | (with_reducible refine lkC_out ?_; simp only [vawp_skip_eq, thenV_normal]; with_reducible refine Gst.now ?_) | (with_reducible refine lkC_out ?_)
    try simp only [vawp_seq_eq, vawp_block_eq]
    with_reducible refine vawp_regq ?_
    simp only [List.toList_toArray]
    repeat (first | (apply vopsQ_pk; (case hd => rfl); (case h1 => simp (disch := first | omega | assumption) only [↓reduceIte, go_sem, e1, e2]); (case h2 => simp (disch := first | omega | assumption) only [↓reduceIte, go_sem, e1, e2]); (case h3 => simp (disch := first | omega | assumption) only [↓reduceIte, go_sem, e1, e2]); (case hb => simp (disch := first | omega | assumption) only [↓reduceIte, go_sem, e1, e2]); (try simp (disch := first | omega | assumption) only [↓reduceIte, go_sem, e1, e2])) | (apply vopsQ_n; (case hd => rfl); (case hq => (intro K' hk'; repeat (first | simp (maxSteps := 4000000) (disch := first | omega | assumption) only [↓reduceIte, go_sem, e1, e2] | with_reducible refine Gst.now ?_ | with_reducible refine vawp_draw mixed (by kernel_rfl) ?_ | with_reducible first | refine lwV_out ?_ | refine lwV_out0 ?_ | refine lkC_out ?_ | refine And.intro (by omega) ?_ | fail); exact hk'))) | (apply vopsQ_gt; (case hd => rfl); (case h1 => rfl); (case h2 => rfl); (case h3 => simp (disch := first | omega | assumption) only [↓reduceIte, go_sem]); (case hq => (intro K' hk'; repeat (first | simp (maxSteps := 4000000) (disch := first | omega | assumption) only [↓reduceIte, go_sem, e1, e2] | with_reducible refine Gst.now ?_ | with_reducible refine vawp_draw mixed (by kernel_rfl) ?_ | with_reducible first | refine lwV_out ?_ | refine lwV_out0 ?_ | refine lkC_out ?_ | refine And.intro (by omega) ?_ | fail); exact hk'))) | (apply vopsQ_gf'; (case hd => rfl); (case h1 => rfl); (case h2 => rfl); (case h3 => simp (disch := first | omega | assumption) only [↓reduceIte, go_sem, e1, e2])) | (apply vopsQ_gj; (case hd => rfl); (case h1 => rfl); (case h2 => rfl); (case h3 => simp (disch := first | omega | assumption) only [↓reduceIte, go_sem, e1, e2])) | (apply vopsQ_gpk; (case hd => rfl); (case h1 => rfl); (case h2 => rfl); (case h3 => simp (disch := first | omega | assumption) only [↓reduceIte, go_sem, e1, e2]); (case k1 => simp (disch := first | omega | assumption) only [↓reduceIte, go_sem, e1, e2]); (case k2 => simp (disch := first | omega | assumption) only [↓reduceIte, go_sem, e1, e2]); (case k3 => simp (disch := first | omega | assumption) only [↓reduceIte, go_sem, e1, e2]); (case hb => (intro hc; (try simp (disch := first | omega | assumption) only [↓reduceIte, go_sem, e1, e2] at hc); simp (disch := first | omega | assumption) only [↓reduceIte, go_sem, hc, e1, e2])); (try simp (disch := first | omega | assumption) only [↓reduceIte, go_sem, e1, e2])) | (apply vopsQ_gu; (case hd => rfl); (case h1 => rfl); (case h2 => rfl); (case h3 => simp (disch := first | omega | assumption) only [↓reduceIte, go_sem, e1, e2]); (case hq => (intro hc K' hk'; (try simp (disch := first | omega | assumption) only [↓reduceIte, go_sem, e1, e2] at hc); repeat (first | simp (maxSteps := 4000000) (disch := first | omega | assumption) only [↓reduceIte, go_sem, hc, e1, e2] | with_reducible refine Gst.now ?_ | with_reducible refine vawp_draw mixed (by kernel_rfl) ?_ | with_reducible first | refine lwV_out ?_ | refine lwV_out0 ?_ | refine lkC_out ?_ | refine And.intro (by omega) ?_ | fail); exact hk')); (try simp (disch := first | omega | assumption) only [↓reduceIte, go_sem, e1, e2])) | fail)
    simp only [vopsQ_nil]
    repeat (first | (simp (maxSteps := 1000000) only [↓reduceIte, go_sem, e1, e2]) | (simp (maxSteps := 1000000) (disch := first | omega | assumption) only [BB, e1, e2]) | with_reducible refine Gst.now ?_ | with_reducible refine vawp_draw mixed (by kernel_rfl) ?_ | with_reducible first | refine lwV_out ?_ | refine lwV_out0 ?_ | refine lkC_out ?_ | refine And.intro (by omega) ?_ | fail)
    split
    · rename_i hc
      have h0 : nn = 0 := by
        rw [← hnn]
        unfold sameN
        exact if_pos (by simp only [Bool.or_eq_true, decide_eq_true_eq] at hc; omega)
      repeat (first | (simp (maxSteps := 1000000) only [↓reduceIte, go_sem, e1, e2]) | (simp (maxSteps := 1000000) (disch := first | omega | assumption) only [BB, e1, e2]) | with_reducible refine Gst.now ?_ | with_reducible refine vawp_draw mixed (by kernel_rfl) ?_ | with_reducible first | refine lwV_out ?_ | refine lwV_out0 ?_ | refine lkC_out ?_ | refine And.intro (by omega) ?_ | fail)
      refine hq _ _ ?_
      repeat (first | (simp (maxSteps := 1000000) only [↓reduceIte, go_sem, e1, e2]) | (simp (maxSteps := 1000000) (disch := first | omega | assumption) only [BB, e1, e2]) | with_reducible refine Gst.now ?_ | with_reducible refine vawp_draw mixed (by kernel_rfl) ?_ | with_reducible first | refine lwV_out ?_ | refine lwV_out0 ?_ | refine lkC_out ?_ | refine And.intro (by omega) ?_ | fail)
      exact .now (hK _ (by simp [h0]))
    · rename_i hc
      simp only [Bool.or_eq_true, decide_eq_true_eq, not_or, Int.not_lt] at hc
      obtain ⟨i, rfl⟩ := Int.eq_ofNat_of_zero_le (a := i) (by omega)
      obtain ⟨k, rfl⟩ := Int.eq_ofNat_of_zero_le (a := k) (by omega)
      have hi : i ≤ b.length := by omega
      have hk : k ≤ b.length := by omega
      repeat (first | (simp (maxSteps := 1000000) only [↓reduceIte, go_sem, e1, e2]) | (simp (maxSteps := 1000000) (disch := first | omega | assumption) only [BB, e1, e2]) | with_reducible refine Gst.now ?_ | with_reducible refine vawp_draw mixed (by kernel_rfl) ?_ | with_reducible first | refine lwV_out ?_ | refine lwV_out0 ?_ | refine lkC_out ?_ | refine And.intro (by omega) ?_ | fail)
      with_reducible refine call_ok ?_
      refine msame_v (i := (i : Nat)) (k := (i : Nat)) rfl hb ?_
      rw [sameN_self hi, show min (b.length - i) 258 = if 258 < b.length - i then 258 else b.length - i by split <;> omega]
      repeat (first | (simp (maxSteps := 1000000) only [↓reduceIte, go_sem, e1, e2]) | (simp (maxSteps := 1000000) (disch := first | omega | assumption) only [BB, e1, e2]) | with_reducible refine Gst.now ?_ | with_reducible refine vawp_draw mixed (by kernel_rfl) ?_ | with_reducible first | refine lwV_out ?_ | refine lwV_out0 ?_ | refine lkC_out ?_ | refine And.intro (by omega) ?_ | fail)
      · by_cases h0 : nn = 0
        · have e3 : (nn = 0) = True := eq_true h0
          have e4 : (nn == 0) = true := by simpa using h0
          repeat (first | (simp (maxSteps := 1000000) only [↓reduceIte, go_sem, e1, e2, e3, e4]) | (simp (maxSteps := 1000000) (disch := first | omega | assumption) only [BB, e1, e2, e3, e4]) | with_reducible refine Gst.now ?_ | with_reducible refine vawp_draw mixed (by kernel_rfl) ?_ | with_reducible first | refine lwV_out ?_ | refine lwV_out0 ?_ | refine lkC_out ?_ | refine And.intro (by omega) ?_ | fail)
          refine hq _ _ ?_
          repeat (first | (simp (maxSteps := 1000000) only [↓reduceIte, go_sem, e1, e2, e3, e4]) | (simp (maxSteps := 1000000) (disch := first | omega | assumption) only [BB, e1, e2, e3, e4]) | with_reducible refine Gst.now ?_ | with_reducible refine vawp_draw mixed (by kernel_rfl) ?_ | with_reducible first | refine lwV_out ?_ | refine lwV_out0 ?_ | refine lkC_out ?_ | refine And.intro (by omega) ?_ | fail)
          exact .now (hK _ rfl)
        · have e3 : (nn = 0) = False := eq_false h0
          have e4 : (nn == 0) = false := by simpa using h0
          by_cases h2 : nn = 258
          · have e5 : (nn = 258) = True := eq_true h2
            have e6 : (nn == 258) = true := by simpa using h2
            repeat (first | (simp (maxSteps := 1000000) only [↓reduceIte, go_sem, e1, e2, e3, e4, e5, e6]) | (simp (maxSteps := 1000000) (disch := first | omega | assumption) only [BB, e1, e2, e3, e4, e5, e6]) | with_reducible refine Gst.now ?_ | with_reducible refine vawp_draw mixed (by kernel_rfl) ?_ | with_reducible first | refine lwV_out ?_ | refine lwV_out0 ?_ | refine lkC_out ?_ | refine And.intro (by omega) ?_ | fail)
            refine hq _ _ ?_
            repeat (first | (simp (maxSteps := 1000000) only [↓reduceIte, go_sem, e1, e2, e3, e4, e5, e6]) | (simp (maxSteps := 1000000) (disch := first | omega | assumption) only [BB, e1, e2, e3, e4, e5, e6]) | with_reducible refine Gst.now ?_ | with_reducible refine vawp_draw mixed (by kernel_rfl) ?_ | with_reducible first | refine lwV_out ?_ | refine lwV_out0 ?_ | refine lkC_out ?_ | refine And.intro (by omega) ?_ | fail)
            exact .now (hK _ rfl)
          · have e5 : (nn = 258) = False := eq_false h2
            have e6 : (nn == 258) = false := by simpa using h2
            have hnx := sameN_next hi hk (by rw [hnn]; exact h0) (by rw [hnn]; exact h2)
            rw [hnn] at hnx
            have e7 : (1 ≤ nn) = True := eq_true (by omega)
            repeat (first | (simp (maxSteps := 1000000) only [↓reduceIte, go_sem, e1, e2, e3, e4, e5, e6, e7]) | (simp (maxSteps := 1000000) (disch := first | omega | assumption) only [BB, e1, e2, e3, e4, e5, e6, e7]) | with_reducible refine Gst.now ?_ | with_reducible refine vawp_draw mixed (by kernel_rfl) ?_ | with_reducible first | refine lwV_out ?_ | refine lwV_out0 ?_ | refine lkC_out ?_ | refine And.intro (by omega) ?_ | fail)
            with_reducible refine call_ok ?_
            refine msame_v (i := (i + 1 : Nat)) (k := (k + 1 : Nat)) rfl hb ?_
            generalize sameN b ((i + 1 : Nat) : Int) ((k + 1 : Nat) : Int) = n2 at *
            have e8 : (n2 = nn - 1) = True := eq_true (by omega)
            repeat (first | (simp (maxSteps := 1000000) only [↓reduceIte, go_sem, e1, e2, e3, e4, e5, e6, e7, e8]) | (simp (maxSteps := 1000000) (disch := first | omega | assumption) only [BB, e1, e2, e3, e4, e5, e6, e7, e8]) | with_reducible refine Gst.now ?_ | with_reducible refine vawp_draw mixed (by kernel_rfl) ?_ | with_reducible first | refine lwV_out ?_ | refine lwV_out0 ?_ | refine lkC_out ?_ | refine And.intro (by omega) ?_ | fail)
            refine hq _ _ ?_
            repeat (first | (simp (maxSteps := 1000000) only [↓reduceIte, go_sem, e1, e2, e3, e4, e5, e6, e7, e8]) | (simp (maxSteps := 1000000) (disch := first | omega | assumption) only [BB, e1, e2, e3, e4, e5, e6, e7, e8]) | with_reducible refine Gst.now ?_ | with_reducible refine vawp_draw mixed (by kernel_rfl) ?_ | with_reducible first | refine lwV_out ?_ | refine lwV_out0 ?_ | refine lkC_out ?_ | refine And.intro (by omega) ?_ | fail)
            exact .now (hK _ (by simp; omega))
end
end Go.Proofs.YtipeglbklhincaaDoor.VLaw
