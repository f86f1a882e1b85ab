/- package span, over the machine of values: the writer. -/
import Derived.Test.YtbmikefignmkdaaProg
import Derived.Test.YtbmikefignmkdaaAbV16
import Derived.Test.YtbmikefignmkdaaAbFacts
import Derived.Test.YtbmikefignmkdaaAbVRow1
import Derived.Test.YtbmikefignmkdaaAbLittleM
import Derived.Test.YtbmikefignmkdaaAbVPut
import Derived.Test.YtbmikefignmkdaaAbVSame
import Derived.Test.YtbmikefignmkdaaAbVJoin
import Derived.KernelRfl
import Derived.Laws.BitsAllLaws
set_option linter.unusedVariables false
set_option linter.unusedSimpArgs false
set_option maxRecDepth 100000
set_option maxHeartbeats 4000000
namespace Go.Proofs.Ytbmikefignmkdaa.VSpan
open Go.RowKit Go.Proofs.AbM Go.Proofs.Ytbmikefignmkdaa.Facts Go.Proofs.Ytbmikefignmkdaa.VRow1 Go.Proofs.Ytbmikefignmkdaa.LittleM Go.Proofs.Ytbmikefignmkdaa.VPut Go.Proofs.Ytbmikefignmkdaa.VSame Go.Proofs.Ytbmikefignmkdaa.VJoin
attribute [local go_sem] vawp_skip_eq vawp_seq_eq vawp_region_eq vawp_cond_g vawp_block_eq vawp_exit_eq vawp_ret_eq thenV_ret thenV_exit thenV_normal inBlockV_normal inBlockV_ret inBlockV_exit resKV_nil resKV_tmp resKV_cell oneV_one oneV_nil oneV_more initV_nil initV_cons updV_at evv_tmp evv_func evv_global evv_int evv_bool evv_str evv_snil evv_pnil evv_agg ofV3_int ofV3_bool ofV3_str ofV3_snil ofV3_pnil vok_tmp vok_func vok_global vok_int vok_bool vok_str vok_snil vok_pnil vok_agg cloV3_int cloV3_bool cloV3_str cloV3_snil cloV3_pnil voks_nil voks_cons scV_int scV_bool scV_str isBlV_b isBV_t isBV_f lwV_none lwV_sc lwV_agg lwV_tup lwV_isl lwV_own lwV_op lwV_ip lwV_fn lwV_junk vops_nil vops_n vops_s gsN_eq vop dstOk_some dstOk_none pkV_b blkV_set eRead_f eRead_t vLoad_op vLoad_ip vStore_op cells_sc cells_isl cells_own cells_op cells_ip cells_fn cells_agg parts_sc parts_isl parts_own parts_op parts_ip parts_fn parts_agg one_sc one_isl one_own one_op one_ip one_fn vField_op vField_ip ePart_f ePart_t vFieldV_agg vIx_isl vIx_own vIx_op vIx_ip vIxV_agg vIxV_str vLen_str vLen_isl vLen_own vLen_agg bndE_none bndE_int vSlice_isl vSlice_str vBin_add vBin_sub vBin_mul vBin_quo vBin_rem vBin_and vBin_or vBin_xor vBin_andNot vBin_eql vBin_neq vBin_lss vBin_leq vBin_gtr vBin_geq vBin_shr_i8 vBin_shl_i8 vBin_shr_i16 vBin_shl_i16 vBin_shr_i32 vBin_shl_i32 vBin_shr_i64 vBin_shl_i64 vBin_shr_u8 vBin_shl_u8 vBin_shr_u16 vBin_shl_u16 vBin_shr_u32 vBin_shl_u32 vBin_shr_u64 vBin_shl_u64 vBin_seq vBin_sne vBin_isln vBin_opn vBin_ipn ex_sc ex_sc2 ex_sc3 ex_tup calleeV wSc_pb wSc_pi wSc_not wSc_neg wSc_com wSc_min2 wSc_max2 vfold_nil vfold_one vfold_cons vfill_nil vfill_e eFill_s vBuild vBox vAlloc setV_map setV_zs setV_zn setV_s hset_hset eConv_ss vConv_e iv_eq ivI_eq ex_get ex_getI set_iv set_ivI okNil isNilV isSlV hdel_at hset_at List.map_toArray List.map_cons List.map_nil List.nil_append List.cons_append List.append_nil List.toList_toArray List.getElem?_toArray List.getElem_toArray List.getElem_cons_zero List.getElem_cons_succ List.getElem?_cons_zero List.getElem?_cons_succ List.set_cons_zero List.set_cons_succ List.set_set List.length_cons List.length_nil List.length_set List.length_map List.all_cons List.all_nil List.drop_zero List.drop_succ_cons List.take_succ_cons List.take_zero List.flatMap_cons Bool.and_eq_true true_and and_true if_true if_false ite_true ite_false forall_eq' forall_eq exists_eq_left exists_eq_left' exists_eq' Value.bool.injEq Value.int.injEq Value.string.injEq Value.pointer.injEq Option.some.injEq AV.sc.injEq AV.op.injEq AV.ip.injEq AV.own.injEq AV.agg.injEq VB.cells.injEq VB.iter.injEq Prod.mk.injEq decide_eq_true_eq decide_eq_false_iff_not Nat.reduceEqDiff Nat.reduceLT Nat.reduceLeDiff Nat.reduceSub Nat.reduceBEq reduceIte Int.reduceLE Int.reduceLT Int.reduceToNat Int.reduceNeg Int.reduceEq Int.reduceNe Int.cast_ofNat_Int Nat.reduceMul Nat.reduceAdd Nat.reduceDiv Nat.reduceMod Nat.reducePow Int.reduceSub Int.reduceAdd Int.reduceMul Int.reducePow Option.isSome_some Option.isSome_none Option.bind_some Option.map_some Option.map_none Option.toList_some Option.toList_none true_or or_true or_false false_or Bool.not_true Bool.not_false Bool.not_eq_true Bool.false_eq_true Bool.not_not false_implies true_implies implies_true Nat.zero_add Nat.add_zero Nat.mul_one Bool.not_eq_true' Bool.true_eq_false Bool.and_true Bool.true_and Bool.and_false Bool.false_and Bool.or_true Bool.true_or Bool.or_false Bool.false_or Option.isNone_some Option.isNone_none Int.reduceBEq Int.reduceBNe beq_self_eq_true bne_self_eq_false beq_iff_eq not_false_eq_true not_true_eq_false Decidable.not_not bne_iff_ne ne_eq Int.toNat_natCast gt_lt ge_le c_add c_mul c_sub c_addn c_nadd c_muln c_nmul c_subn c_nsub c_divn c_modn c_div c_mod c_tdivn c_tmodn c_tdiv c_tmod c_pow c_nn c_beq c_beqn c_bne c_bnen wr64 wr32 wru64 wru32 wru16 wru8 c_if c_if1 c_if2 c_lt c_le c_eq c_ltn c_len c_nlt c_nle c_eqn m_drop m_take Nat.add_sub_cancel_left Nat.add_sub_cancel Int.reduceTMod Int.reduceTDiv Int.reduceMod Int.reduceDiv isC_some hset_ne hdel_ne hdel_hset hdel_hset_ne blkV_nset blkV_ndel hset_hdel gV_t gV_f isGdV_b isGdV_u isBV_u isGdV_g isBV_gt isBV_gf decide_true decide_false Bool.or_eq_false_iff eq_self Nat.lt_irrefl Int.lt_irrefl Nat.le_refl Int.le_refl
attribute [local go_sem high] vops_pk vops_mv vops_as vops_smv pk_and pk_or pk_gand pk_gor pk_orn pk_gorn
attribute [local go_sem] ag3 sz3 zc3 ik3 ag4 sz4 zc4 ag5 sz5 zc5 ik5 ag9 sz9 zc9 iq9 ag22 sz22 el22 zc22 is22 ag25 sz25 zc25 pt25 ag26 sz26 zc26 ik26 ag29 sz29 el29 zc29 is29 ag31 sz31 zc31 bo31 ag33 sz33 el33 zc33 is33 ag35 sz35 zc35 bo35 ag37 sz37 zc37 eqs37 nes37 bo37 ag51 sz51 el51 zc51 is51 ag59 sz59 zc59 ik59 ag61 sz61 zc61 bo61 ag67 sz67 zc67 of31_0 fd31_0 of31_1 fd31_1 of35_0 fd35_0 of35_1 fd35_1 of37_0 fd37_0 of37_1 fd37_1 of61_0 fd61_0 of61_1 fd61_1 eqb neb
section
variable {n : Nat} {h : VH} {K : AV → VH → Prop}
attribute [local go_sem] rowC rowA ex_row row_len row_take row_drop Nat.sub_zero Nat.zero_le
/-- A writer's three blocks: its struct, its row, the last volume. -/
def WrS (h0 : VH) (j r k sz : Nat) (X : List RowV) (L : List Nat) : VH :=
  hset (hset (hset h0 k (.cells 5 false (L.map (iv .u8)))) r (.cells 33 false (X.flatMap rowC ++ [.own k 0 L.length]))) j (.cells 61 false [(.sc (.int .i64 ((sz : Nat)))), .own r 0 (X.length + 1)])
theorem getq_last {cs : List AV} {m : Nat} {v : AV} (hm : cs.length = m) : (cs ++ [v])[m]? = some v := by subst hm; simp
theorem setV_last {cs : List AV} {m : Nat} {v w : AV} (hm : cs.length = m) : setV (cs ++ [v]) m [w] = cs ++ [w] := by
  subst hm
  rw [setV_one (by simp)]
  simp
structure WrL (h : VH) (j r k sz m l : Nat) : Prop where
  j : blkV h j = some (61, [(.sc (.int .i64 ((sz : Nat)))), .own r 0 (m + 1)])
  r : ∃ cs, blkV h r = some (33, cs) ∧ cs[m]? = some (.own k 0 l)
  k : isC (h k) = true
theorem last_v {j r sz m : Nat} (hj : blkV h j = some (61, [(.sc (.int .i64 ((sz : Nat)))), .own r 0 (m + 1)])) (hr : isC (h r) = true) (hm : m ≤ 140737488355328) (hK : K (.op r m) h) : VC Try.prog GL (n + 1) 33 [.op j 0] h K := by
  refine VC_go Try.func33 rfl (by decide) Try.ntmps33 Try.results33 rfl fun Q hq hn => ?_
  have e1 : (m < m + 1) = True := eq_true (Nat.lt_succ_self m)
  repeat (first | (simp (maxSteps := 1000000) only [↓reduceIte, go_sem, e1]) | (simp (maxSteps := 1000000) (disch := first | omega | assumption) only [BB, e1]) | with_reducible refine Gst.now ?_ | with_reducible first | refine lwV_out ?_ | refine lwV_out0 ?_ | refine lkC_out ?_ | refine And.intro (by omega) ?_ | fail)
  apply vawp_quiet 12 0 mixed
  case hk => rfl
  case hok => kernel_rfl
  simp only [List.toList_toArray, List.take_succ_cons, List.take_zero]
  repeat (first | (apply vopsQ_pk; (case hd => rfl); (case h1 => simp (disch := first | omega | assumption) only [↓reduceIte, go_sem, hj, hr, e1]); (case h2 => simp (disch := first | omega | assumption) only [↓reduceIte, go_sem, hj, hr, e1]); (case h3 => simp (disch := first | omega | assumption) only [↓reduceIte, go_sem, hj, hr, e1]); (case hb => simp (disch := first | omega | assumption) only [↓reduceIte, go_sem, hj, hr, e1]); (try simp (disch := first | omega | assumption) only [↓reduceIte, go_sem, hj, hr, e1])) | (apply vopsQ_n; (case hd => rfl); (case hq => (intro K' hk'; repeat (first | simp (maxSteps := 4000000) (disch := first | omega | assumption) only [↓reduceIte, go_sem, hj, hr, e1] | with_reducible refine Gst.now ?_ | with_reducible refine vawp_draw mixed (by kernel_rfl) ?_ | with_reducible first | refine lwV_out ?_ | refine lwV_out0 ?_ | refine lkC_out ?_ | refine And.intro (by omega) ?_ | fail); exact hk'))) | (apply vopsQ_gt; (case hd => rfl); (case h1 => rfl); (case h2 => rfl); (case h3 => simp (disch := first | omega | assumption) only [↓reduceIte, go_sem]); (case hq => (intro K' hk'; repeat (first | simp (maxSteps := 4000000) (disch := first | omega | assumption) only [↓reduceIte, go_sem, hj, hr, e1] | with_reducible refine Gst.now ?_ | with_reducible refine vawp_draw mixed (by kernel_rfl) ?_ | with_reducible first | refine lwV_out ?_ | refine lwV_out0 ?_ | refine lkC_out ?_ | refine And.intro (by omega) ?_ | fail); exact hk'))) | (apply vopsQ_gf'; (case hd => rfl); (case h1 => rfl); (case h2 => rfl); (case h3 => simp (disch := first | omega | assumption) only [↓reduceIte, go_sem, hj, hr, e1])) | (apply vopsQ_gj; (case hd => rfl); (case h1 => rfl); (case h2 => rfl); (case h3 => simp (disch := first | omega | assumption) only [↓reduceIte, go_sem, hj, hr, e1])) | (apply vopsQ_gpk; (case hd => rfl); (case h1 => rfl); (case h2 => rfl); (case h3 => simp (disch := first | omega | assumption) only [↓reduceIte, go_sem, hj, hr, e1]); (case k1 => simp (disch := first | omega | assumption) only [↓reduceIte, go_sem, hj, hr, e1]); (case k2 => simp (disch := first | omega | assumption) only [↓reduceIte, go_sem, hj, hr, e1]); (case k3 => simp (disch := first | omega | assumption) only [↓reduceIte, go_sem, hj, hr, e1]); (case hb => (intro hc; (try simp (disch := first | omega | assumption) only [↓reduceIte, go_sem, hj, hr, e1] at hc); simp (disch := first | omega | assumption) only [↓reduceIte, go_sem, hc, hj, hr, e1])); (try simp (disch := first | omega | assumption) only [↓reduceIte, go_sem, hj, hr, e1])) | (apply vopsQ_gu; (case hd => rfl); (case h1 => rfl); (case h2 => rfl); (case h3 => simp (disch := first | omega | assumption) only [↓reduceIte, go_sem, hj, hr, e1]); (case hq => (intro hc K' hk'; (try simp (disch := first | omega | assumption) only [↓reduceIte, go_sem, hj, hr, e1] at hc); repeat (first | simp (maxSteps := 4000000) (disch := first | omega | assumption) only [↓reduceIte, go_sem, hc, hj, hr, e1] | with_reducible refine Gst.now ?_ | with_reducible refine vawp_draw mixed (by kernel_rfl) ?_ | with_reducible first | refine lwV_out ?_ | refine lwV_out0 ?_ | refine lkC_out ?_ | refine And.intro (by omega) ?_ | fail); exact hk')); (try simp (disch := first | omega | assumption) only [↓reduceIte, go_sem, hj, hr, e1])) | fail)
  simp only [vopsQ_nil]
  refine vany_end (by kernel_rfl) ?_
  repeat (first | (simp (maxSteps := 1000000) only [↓reduceIte, go_sem, e1]) | (simp (maxSteps := 1000000) (disch := first | omega | assumption) only [BB, e1]) | with_reducible refine Gst.now ?_ | with_reducible refine vawp_draw mixed (by kernel_rfl) ?_ | with_reducible first | refine lwV_out ?_ | refine lwV_out0 ?_ | refine lkC_out ?_ | refine And.intro (by omega) ?_ | fail)
  refine hq _ _ ?_
  repeat (first | (simp (maxSteps := 1000000) only [↓reduceIte, go_sem, e1]) | (simp (maxSteps := 1000000) (disch := first | omega | assumption) only [BB, e1]) | with_reducible refine Gst.now ?_ | with_reducible refine vawp_draw mixed (by kernel_rfl) ?_ | with_reducible first | refine lwV_out ?_ | refine lwV_out0 ?_ | refine lkC_out ?_ | refine And.intro (by omega) ?_ | fail)
  exact .now hK
theorem blk_isC {j : Nat} {q : TypeId × List AV} (hj : blkV h j = some q) : isC (h j) = true := by
  obtain ⟨e, cs⟩ := q
  rw [blkV_iff.1 hj]; rfl
theorem room_v {j r k sz m l : Nat} (hw : WrL h j r k sz m l) (hm : m ≤ 140737488355328) (hl : l ≤ sz) (hsz : sz ≤ 16777216) (hK : K (.sc (.int .i64 ((sz - l : Nat)))) h) : VC Try.prog GL (n + 2) 28 [.op j 0] h K := by
  refine VC_go Try.func28 rfl (by decide) Try.ntmps28 Try.results28 rfl fun Q hq hn => ?_
  obtain ⟨hj, ⟨cs, hr, hc⟩, hk⟩ := hw
  have e1 := blk_isC hr
  repeat (first | (simp (maxSteps := 1000000) only [↓reduceIte, go_sem, e1]) | (simp (maxSteps := 1000000) (disch := first | omega | assumption) only [BB, e1]) | with_reducible refine Gst.now ?_ | with_reducible first | refine lwV_out ?_ | refine lwV_out0 ?_ | refine lkC_out ?_ | refine And.intro (by omega) ?_ | fail)
  apply vawp_quiet 11 0 mixed
  case hk => rfl
  case hok => kernel_rfl
  simp only [List.toList_toArray, List.take_succ_cons, List.take_zero]
  repeat (first | (apply vopsQ_pk; (case hd => rfl); (case h1 => simp (disch := first | omega | assumption) only [↓reduceIte, go_sem, hj, hr, hc, hk, e1]); (case h2 => simp (disch := first | omega | assumption) only [↓reduceIte, go_sem, hj, hr, hc, hk, e1]); (case h3 => simp (disch := first | omega | assumption) only [↓reduceIte, go_sem, hj, hr, hc, hk, e1]); (case hb => simp (disch := first | omega | assumption) only [↓reduceIte, go_sem, hj, hr, hc, hk, e1]); (try simp (disch := first | omega | assumption) only [↓reduceIte, go_sem, hj, hr, hc, hk, e1])) | (apply vopsQ_n; (case hd => rfl); (case hq => (intro K' hk'; repeat (first | simp (maxSteps := 4000000) (disch := first | omega | assumption) only [↓reduceIte, go_sem, hj, hr, hc, hk, e1] | with_reducible refine Gst.now ?_ | with_reducible refine vawp_draw mixed (by kernel_rfl) ?_ | with_reducible first | refine lwV_out ?_ | refine lwV_out0 ?_ | refine lkC_out ?_ | refine And.intro (by omega) ?_ | fail); exact hk'))) | (apply vopsQ_gt; (case hd => rfl); (case h1 => rfl); (case h2 => rfl); (case h3 => simp (disch := first | omega | assumption) only [↓reduceIte, go_sem]); (case hq => (intro K' hk'; repeat (first | simp (maxSteps := 4000000) (disch := first | omega | assumption) only [↓reduceIte, go_sem, hj, hr, hc, hk, e1] | with_reducible refine Gst.now ?_ | with_reducible refine vawp_draw mixed (by kernel_rfl) ?_ | with_reducible first | refine lwV_out ?_ | refine lwV_out0 ?_ | refine lkC_out ?_ | refine And.intro (by omega) ?_ | fail); exact hk'))) | (apply vopsQ_gf'; (case hd => rfl); (case h1 => rfl); (case h2 => rfl); (case h3 => simp (disch := first | omega | assumption) only [↓reduceIte, go_sem, hj, hr, hc, hk, e1])) | (apply vopsQ_gj; (case hd => rfl); (case h1 => rfl); (case h2 => rfl); (case h3 => simp (disch := first | omega | assumption) only [↓reduceIte, go_sem, hj, hr, hc, hk, e1])) | (apply vopsQ_gpk; (case hd => rfl); (case h1 => rfl); (case h2 => rfl); (case h3 => simp (disch := first | omega | assumption) only [↓reduceIte, go_sem, hj, hr, hc, hk, e1]); (case k1 => simp (disch := first | omega | assumption) only [↓reduceIte, go_sem, hj, hr, hc, hk, e1]); (case k2 => simp (disch := first | omega | assumption) only [↓reduceIte, go_sem, hj, hr, hc, hk, e1]); (case k3 => simp (disch := first | omega | assumption) only [↓reduceIte, go_sem, hj, hr, hc, hk, e1]); (case hb => (intro hc; (try simp (disch := first | omega | assumption) only [↓reduceIte, go_sem, hj, hr, hc, hk, e1] at hc); simp (disch := first | omega | assumption) only [↓reduceIte, go_sem, hc, hj, hr, hc, hk, e1])); (try simp (disch := first | omega | assumption) only [↓reduceIte, go_sem, hj, hr, hc, hk, e1])) | (apply vopsQ_gu; (case hd => rfl); (case h1 => rfl); (case h2 => rfl); (case h3 => simp (disch := first | omega | assumption) only [↓reduceIte, go_sem, hj, hr, hc, hk, e1]); (case hq => (intro hc K' hk'; (try simp (disch := first | omega | assumption) only [↓reduceIte, go_sem, hj, hr, hc, hk, e1] at hc); repeat (first | simp (maxSteps := 4000000) (disch := first | omega | assumption) only [↓reduceIte, go_sem, hc, hj, hr, hc, hk, e1] | with_reducible refine Gst.now ?_ | with_reducible refine vawp_draw mixed (by kernel_rfl) ?_ | with_reducible first | refine lwV_out ?_ | refine lwV_out0 ?_ | refine lkC_out ?_ | refine And.intro (by omega) ?_ | fail); exact hk')); (try simp (disch := first | omega | assumption) only [↓reduceIte, go_sem, hj, hr, hc, hk, e1])) | fail)
  first | (apply vopsQ_n; (case hd => rfl)) | (apply vopsQ_gt; (case hd => rfl); (case h1 => rfl); (case h2 => rfl); (case h3 => simp (disch := first | omega | assumption) only [↓reduceIte, go_sem]))
  case hq => (intro K' hk'; repeat (first | simp (maxSteps := 4000000) (disch := first | omega | assumption) only [↓reduceIte, go_sem] | with_reducible refine Gst.now ?_ | with_reducible refine vawp_draw mixed (by kernel_rfl) ?_ | with_reducible first | refine lwV_out ?_ | refine lwV_out0 ?_ | refine lkC_out ?_ | refine And.intro (by omega) ?_ | fail); refine call_ok ?_; refine last_v hj (blk_isC hr) hm ?_; exact hk')
  repeat (first | (apply vopsQ_pk; (case hd => rfl); (case h1 => simp (disch := first | omega | assumption) only [↓reduceIte, go_sem, hj, hr, hc, hk, e1]); (case h2 => simp (disch := first | omega | assumption) only [↓reduceIte, go_sem, hj, hr, hc, hk, e1]); (case h3 => simp (disch := first | omega | assumption) only [↓reduceIte, go_sem, hj, hr, hc, hk, e1]); (case hb => simp (disch := first | omega | assumption) only [↓reduceIte, go_sem, hj, hr, hc, hk, e1]); (try simp (disch := first | omega | assumption) only [↓reduceIte, go_sem, hj, hr, hc, hk, e1])) | (apply vopsQ_n; (case hd => rfl); (case hq => (intro K' hk'; repeat (first | simp (maxSteps := 4000000) (disch := first | omega | assumption) only [↓reduceIte, go_sem, hj, hr, hc, hk, e1] | with_reducible refine Gst.now ?_ | with_reducible refine vawp_draw mixed (by kernel_rfl) ?_ | with_reducible first | refine lwV_out ?_ | refine lwV_out0 ?_ | refine lkC_out ?_ | refine And.intro (by omega) ?_ | fail); exact hk'))) | (apply vopsQ_gt; (case hd => rfl); (case h1 => rfl); (case h2 => rfl); (case h3 => simp (disch := first | omega | assumption) only [↓reduceIte, go_sem]); (case hq => (intro K' hk'; repeat (first | simp (maxSteps := 4000000) (disch := first | omega | assumption) only [↓reduceIte, go_sem, hj, hr, hc, hk, e1] | with_reducible refine Gst.now ?_ | with_reducible refine vawp_draw mixed (by kernel_rfl) ?_ | with_reducible first | refine lwV_out ?_ | refine lwV_out0 ?_ | refine lkC_out ?_ | refine And.intro (by omega) ?_ | fail); exact hk'))) | (apply vopsQ_gf'; (case hd => rfl); (case h1 => rfl); (case h2 => rfl); (case h3 => simp (disch := first | omega | assumption) only [↓reduceIte, go_sem, hj, hr, hc, hk, e1])) | (apply vopsQ_gj; (case hd => rfl); (case h1 => rfl); (case h2 => rfl); (case h3 => simp (disch := first | omega | assumption) only [↓reduceIte, go_sem, hj, hr, hc, hk, e1])) | (apply vopsQ_gpk; (case hd => rfl); (case h1 => rfl); (case h2 => rfl); (case h3 => simp (disch := first | omega | assumption) only [↓reduceIte, go_sem, hj, hr, hc, hk, e1]); (case k1 => simp (disch := first | omega | assumption) only [↓reduceIte, go_sem, hj, hr, hc, hk, e1]); (case k2 => simp (disch := first | omega | assumption) only [↓reduceIte, go_sem, hj, hr, hc, hk, e1]); (case k3 => simp (disch := first | omega | assumption) only [↓reduceIte, go_sem, hj, hr, hc, hk, e1]); (case hb => (intro hc; (try simp (disch := first | omega | assumption) only [↓reduceIte, go_sem, hj, hr, hc, hk, e1] at hc); simp (disch := first | omega | assumption) only [↓reduceIte, go_sem, hc, hj, hr, hc, hk, e1])); (try simp (disch := first | omega | assumption) only [↓reduceIte, go_sem, hj, hr, hc, hk, e1])) | (apply vopsQ_gu; (case hd => rfl); (case h1 => rfl); (case h2 => rfl); (case h3 => simp (disch := first | omega | assumption) only [↓reduceIte, go_sem, hj, hr, hc, hk, e1]); (case hq => (intro hc K' hk'; (try simp (disch := first | omega | assumption) only [↓reduceIte, go_sem, hj, hr, hc, hk, e1] at hc); repeat (first | simp (maxSteps := 4000000) (disch := first | omega | assumption) only [↓reduceIte, go_sem, hc, hj, hr, hc, hk, e1] | with_reducible refine Gst.now ?_ | with_reducible refine vawp_draw mixed (by kernel_rfl) ?_ | with_reducible first | refine lwV_out ?_ | refine lwV_out0 ?_ | refine lkC_out ?_ | refine And.intro (by omega) ?_ | fail); exact hk')); (try simp (disch := first | omega | assumption) only [↓reduceIte, go_sem, hj, hr, hc, hk, e1])) | fail)
  simp only [vopsQ_nil]
  refine vany_end (by kernel_rfl) ?_
  repeat (first | (simp (maxSteps := 1000000) only [↓reduceIte, go_sem, e1]) | (simp (maxSteps := 1000000) (disch := first | omega | assumption) only [BB, e1]) | with_reducible refine Gst.now ?_ | with_reducible refine vawp_draw mixed (by kernel_rfl) ?_ | with_reducible first | refine lwV_out ?_ | refine lwV_out0 ?_ | refine lkC_out ?_ | refine And.intro (by omega) ?_ | fail)
  refine hq _ _ ?_
  repeat (first | (simp (maxSteps := 1000000) only [↓reduceIte, go_sem, e1]) | (simp (maxSteps := 1000000) (disch := first | omega | assumption) only [BB, e1]) | with_reducible refine Gst.now ?_ | with_reducible refine vawp_draw mixed (by kernel_rfl) ?_ | with_reducible first | refine lwV_out ?_ | refine lwV_out0 ?_ | refine lkC_out ?_ | refine And.intro (by omega) ?_ | fail)
  exact .now hK
/-- Where the next byte would stand, if so many are to stand together. -/
def placeW (sz m l c : Nat) : Nat × Nat := if sz - l < c then (m + 1, 0) else (m, l)
theorem place_v {j r k sz m l c : Nat} (hw : WrL h j r k sz m l) (hm : m ≤ 140737488355328) (hl : l ≤ sz) (hsz : sz ≤ 16777216) (hK : K (.agg [(.sc (.int .i64 (((placeW sz m l c).1 : Nat)))), (.sc (.int .i64 (((placeW sz m l c).2 : Nat))))]) h) : VC Try.prog GL (n + 3) 25 [.op j 0, (.sc (.int .i64 ((c : Nat))))] h K := by
  refine VC_go Try.func25 rfl (by decide) Try.ntmps25 Try.results25 rfl fun Q hq hn => ?_
  repeat (first | (simp (maxSteps := 1000000) only [↓reduceIte, go_sem]) | (simp (maxSteps := 1000000) (disch := first | omega | assumption) only [BB]) | with_reducible refine Gst.now ?_ | with_reducible refine vawp_draw mixed (by kernel_rfl) ?_ | with_reducible first | refine lwV_out ?_ | refine lwV_out0 ?_ | refine lkC_out ?_ | refine And.intro (by omega) ?_ | fail)
  intro p hp
  have hw' : WrL (hset h p (.cells 37 false [(.sc (.int .i64 (0))), (.sc (.int .i64 (0)))])) j r k sz m l := by
    obtain ⟨hj, ⟨cs, hr, hc⟩, hk⟩ := hw
    refine ⟨by rw [blkV_nset (new_ne hj hp)]; exact hj, ⟨cs, by rw [blkV_nset (new_ne hr hp)]; exact hr, hc⟩, ?_⟩
    rw [hset_ne]
    · exact hk
    · rintro rfl; rw [hp] at hk; cases hk
  repeat (first | (simp (maxSteps := 1000000) only [↓reduceIte, go_sem]) | (simp (maxSteps := 1000000) (disch := first | omega | assumption) only [BB]) | with_reducible refine Gst.now ?_ | with_reducible refine vawp_draw mixed (by kernel_rfl) ?_ | with_reducible first | refine lwV_out ?_ | refine lwV_out0 ?_ | refine lkC_out ?_ | refine And.intro (by omega) ?_ | fail)
  with_reducible refine call_ok ?_
  refine room_v hw' hm hl hsz ?_
  obtain ⟨hj, ⟨cs, hr, hc⟩, hk⟩ := hw'
  have e1 := blk_isC hr
  unfold placeW at hK
  repeat (first | (simp (maxSteps := 1000000) only [↓reduceIte, go_sem, e1]) | (simp (maxSteps := 1000000) (disch := first | omega | assumption) only [BB, e1]) | with_reducible refine Gst.now ?_ | with_reducible refine vawp_draw mixed (by kernel_rfl) ?_ | with_reducible first | refine lwV_out ?_ | refine lwV_out0 ?_ | refine lkC_out ?_ | refine And.intro (by omega) ?_ | fail)
  split
  · rename_i hlt
    rw [if_pos hlt] at hK
    repeat (first | (simp (maxSteps := 1000000) only [↓reduceIte, go_sem, hj, hr, hc, hk, e1]) | (simp (maxSteps := 1000000) (disch := first | omega | assumption) only [BB, hj, hr, hc, hk, e1]) | with_reducible refine Gst.now ?_ | with_reducible refine vawp_draw mixed (by kernel_rfl) ?_ | with_reducible first | refine lwV_out ?_ | refine lwV_out0 ?_ | refine lkC_out ?_ | refine And.intro (by omega) ?_ | fail)
    refine hq _ _ ?_
    repeat (first | (simp (maxSteps := 1000000) only [↓reduceIte, go_sem, e1]) | (simp (maxSteps := 1000000) (disch := first | omega | assumption) only [BB, e1]) | with_reducible refine Gst.now ?_ | with_reducible refine vawp_draw mixed (by kernel_rfl) ?_ | with_reducible first | refine lwV_out ?_ | refine lwV_out0 ?_ | refine lkC_out ?_ | refine And.intro (by omega) ?_ | fail)
    refine .drop p ?_
    repeat (first | (simp (maxSteps := 1000000) only [↓reduceIte, go_sem, e1]) | (simp (maxSteps := 1000000) (disch := first | omega | assumption) only [BB, e1]) | with_reducible refine Gst.now ?_ | with_reducible refine vawp_draw mixed (by kernel_rfl) ?_ | with_reducible first | refine lwV_out ?_ | refine lwV_out0 ?_ | refine lkC_out ?_ | refine And.intro (by omega) ?_ | fail)
    refine FrK.now (hcast (hK) ?_)
    first | rfl | (funext i; simp only [hset, hdel]; repeat' split) <;> (first | rfl | (subst_vars; simp_all [hset, hdel]; done) | (subst_vars; exfalso; simp_all [hset, hdel]; done))
  · rename_i hlt
    rw [if_neg hlt] at hK
    repeat (first | (simp (maxSteps := 1000000) only [↓reduceIte, go_sem, e1]) | (simp (maxSteps := 1000000) (disch := first | omega | assumption) only [BB, e1]) | with_reducible refine Gst.now ?_ | with_reducible first | refine lwV_out ?_ | refine lwV_out0 ?_ | refine lkC_out ?_ | refine And.intro (by omega) ?_ | fail)
    apply vawp_quiet 12 1 mixed
    case hk => rfl
    case hok => kernel_rfl
    simp only [List.toList_toArray, List.take_succ_cons, List.take_zero]
    repeat (first | (apply vopsQ_pk; (case hd => rfl); (case h1 => simp (disch := first | omega | assumption) only [↓reduceIte, go_sem, hj, hr, hc, hk, e1]); (case h2 => simp (disch := first | omega | assumption) only [↓reduceIte, go_sem, hj, hr, hc, hk, e1]); (case h3 => simp (disch := first | omega | assumption) only [↓reduceIte, go_sem, hj, hr, hc, hk, e1]); (case hb => simp (disch := first | omega | assumption) only [↓reduceIte, go_sem, hj, hr, hc, hk, e1]); (try simp (disch := first | omega | assumption) only [↓reduceIte, go_sem, hj, hr, hc, hk, e1])) | (apply vopsQ_n; (case hd => rfl); (case hq => (intro K' hk'; repeat (first | simp (maxSteps := 4000000) (disch := first | omega | assumption) only [↓reduceIte, go_sem, hj, hr, hc, hk, e1] | with_reducible refine Gst.now ?_ | with_reducible refine vawp_draw mixed (by kernel_rfl) ?_ | with_reducible first | refine lwV_out ?_ | refine lwV_out0 ?_ | refine lkC_out ?_ | refine And.intro (by omega) ?_ | fail); exact hk'))) | (apply vopsQ_gt; (case hd => rfl); (case h1 => rfl); (case h2 => rfl); (case h3 => simp (disch := first | omega | assumption) only [↓reduceIte, go_sem]); (case hq => (intro K' hk'; repeat (first | simp (maxSteps := 4000000) (disch := first | omega | assumption) only [↓reduceIte, go_sem, hj, hr, hc, hk, e1] | with_reducible refine Gst.now ?_ | with_reducible refine vawp_draw mixed (by kernel_rfl) ?_ | with_reducible first | refine lwV_out ?_ | refine lwV_out0 ?_ | refine lkC_out ?_ | refine And.intro (by omega) ?_ | fail); exact hk'))) | (apply vopsQ_gf'; (case hd => rfl); (case h1 => rfl); (case h2 => rfl); (case h3 => simp (disch := first | omega | assumption) only [↓reduceIte, go_sem, hj, hr, hc, hk, e1])) | (apply vopsQ_gj; (case hd => rfl); (case h1 => rfl); (case h2 => rfl); (case h3 => simp (disch := first | omega | assumption) only [↓reduceIte, go_sem, hj, hr, hc, hk, e1])) | (apply vopsQ_gpk; (case hd => rfl); (case h1 => rfl); (case h2 => rfl); (case h3 => simp (disch := first | omega | assumption) only [↓reduceIte, go_sem, hj, hr, hc, hk, e1]); (case k1 => simp (disch := first | omega | assumption) only [↓reduceIte, go_sem, hj, hr, hc, hk, e1]); (case k2 => simp (disch := first | omega | assumption) only [↓reduceIte, go_sem, hj, hr, hc, hk, e1]); (case k3 => simp (disch := first | omega | assumption) only [↓reduceIte, go_sem, hj, hr, hc, hk, e1]); (case hb => (intro hc; (try simp (disch := first | omega | assumption) only [↓reduceIte, go_sem, hj, hr, hc, hk, e1] at hc); simp (disch := first | omega | assumption) only [↓reduceIte, go_sem, hc, hj, hr, hc, hk, e1])); (try simp (disch := first | omega | assumption) only [↓reduceIte, go_sem, hj, hr, hc, hk, e1])) | (apply vopsQ_gu; (case hd => rfl); (case h1 => rfl); (case h2 => rfl); (case h3 => simp (disch := first | omega | assumption) only [↓reduceIte, go_sem, hj, hr, hc, hk, e1]); (case hq => (intro hc K' hk'; (try simp (disch := first | omega | assumption) only [↓reduceIte, go_sem, hj, hr, hc, hk, e1] at hc); repeat (first | simp (maxSteps := 4000000) (disch := first | omega | assumption) only [↓reduceIte, go_sem, hc, hj, hr, hc, hk, e1] | with_reducible refine Gst.now ?_ | with_reducible refine vawp_draw mixed (by kernel_rfl) ?_ | with_reducible first | refine lwV_out ?_ | refine lwV_out0 ?_ | refine lkC_out ?_ | refine And.intro (by omega) ?_ | fail); exact hk')); (try simp (disch := first | omega | assumption) only [↓reduceIte, go_sem, hj, hr, hc, hk, e1])) | fail)
    first | (apply vopsQ_n; (case hd => rfl)) | (apply vopsQ_gt; (case hd => rfl); (case h1 => rfl); (case h2 => rfl); (case h3 => simp (disch := first | omega | assumption) only [↓reduceIte, go_sem]))
    case hq => (intro K' hk'; repeat (first | simp (maxSteps := 4000000) (disch := first | omega | assumption) only [↓reduceIte, go_sem] | with_reducible refine Gst.now ?_ | with_reducible refine vawp_draw mixed (by kernel_rfl) ?_ | with_reducible first | refine lwV_out ?_ | refine lwV_out0 ?_ | refine lkC_out ?_ | refine And.intro (by omega) ?_ | fail); refine call_ok ?_; refine last_v hj (blk_isC hr) hm ?_; exact hk')
    repeat (first | (apply vopsQ_pk; (case hd => rfl); (case h1 => simp (disch := first | omega | assumption) only [↓reduceIte, go_sem, hj, hr, hc, hk, e1]); (case h2 => simp (disch := first | omega | assumption) only [↓reduceIte, go_sem, hj, hr, hc, hk, e1]); (case h3 => simp (disch := first | omega | assumption) only [↓reduceIte, go_sem, hj, hr, hc, hk, e1]); (case hb => simp (disch := first | omega | assumption) only [↓reduceIte, go_sem, hj, hr, hc, hk, e1]); (try simp (disch := first | omega | assumption) only [↓reduceIte, go_sem, hj, hr, hc, hk, e1])) | (apply vopsQ_n; (case hd => rfl); (case hq => (intro K' hk'; repeat (first | simp (maxSteps := 4000000) (disch := first | omega | assumption) only [↓reduceIte, go_sem, hj, hr, hc, hk, e1] | with_reducible refine Gst.now ?_ | with_reducible refine vawp_draw mixed (by kernel_rfl) ?_ | with_reducible first | refine lwV_out ?_ | refine lwV_out0 ?_ | refine lkC_out ?_ | refine And.intro (by omega) ?_ | fail); exact hk'))) | (apply vopsQ_gt; (case hd => rfl); (case h1 => rfl); (case h2 => rfl); (case h3 => simp (disch := first | omega | assumption) only [↓reduceIte, go_sem]); (case hq => (intro K' hk'; repeat (first | simp (maxSteps := 4000000) (disch := first | omega | assumption) only [↓reduceIte, go_sem, hj, hr, hc, hk, e1] | with_reducible refine Gst.now ?_ | with_reducible refine vawp_draw mixed (by kernel_rfl) ?_ | with_reducible first | refine lwV_out ?_ | refine lwV_out0 ?_ | refine lkC_out ?_ | refine And.intro (by omega) ?_ | fail); exact hk'))) | (apply vopsQ_gf'; (case hd => rfl); (case h1 => rfl); (case h2 => rfl); (case h3 => simp (disch := first | omega | assumption) only [↓reduceIte, go_sem, hj, hr, hc, hk, e1])) | (apply vopsQ_gj; (case hd => rfl); (case h1 => rfl); (case h2 => rfl); (case h3 => simp (disch := first | omega | assumption) only [↓reduceIte, go_sem, hj, hr, hc, hk, e1])) | (apply vopsQ_gpk; (case hd => rfl); (case h1 => rfl); (case h2 => rfl); (case h3 => simp (disch := first | omega | assumption) only [↓reduceIte, go_sem, hj, hr, hc, hk, e1]); (case k1 => simp (disch := first | omega | assumption) only [↓reduceIte, go_sem, hj, hr, hc, hk, e1]); (case k2 => simp (disch := first | omega | assumption) only [↓reduceIte, go_sem, hj, hr, hc, hk, e1]); (case k3 => simp (disch := first | omega | assumption) only [↓reduceIte, go_sem, hj, hr, hc, hk, e1]); (case hb => (intro hc; (try simp (disch := first | omega | assumption) only [↓reduceIte, go_sem, hj, hr, hc, hk, e1] at hc); simp (disch := first | omega | assumption) only [↓reduceIte, go_sem, hc, hj, hr, hc, hk, e1])); (try simp (disch := first | omega | assumption) only [↓reduceIte, go_sem, hj, hr, hc, hk, e1])) | (apply vopsQ_gu; (case hd => rfl); (case h1 => rfl); (case h2 => rfl); (case h3 => simp (disch := first | omega | assumption) only [↓reduceIte, go_sem, hj, hr, hc, hk, e1]); (case hq => (intro hc K' hk'; (try simp (disch := first | omega | assumption) only [↓reduceIte, go_sem, hj, hr, hc, hk, e1] at hc); repeat (first | simp (maxSteps := 4000000) (disch := first | omega | assumption) only [↓reduceIte, go_sem, hc, hj, hr, hc, hk, e1] | with_reducible refine Gst.now ?_ | with_reducible refine vawp_draw mixed (by kernel_rfl) ?_ | with_reducible first | refine lwV_out ?_ | refine lwV_out0 ?_ | refine lkC_out ?_ | refine And.intro (by omega) ?_ | fail); exact hk')); (try simp (disch := first | omega | assumption) only [↓reduceIte, go_sem, hj, hr, hc, hk, e1])) | fail)
    simp only [vopsQ_nil]
    apply vany_one 12
    case hr => kernel_rfl
    case ho => rfl
    repeat (first | (simp (maxSteps := 1000000) only [↓reduceIte, go_sem, e1]) | (simp (maxSteps := 1000000) (disch := first | omega | assumption) only [BB, e1]) | with_reducible first | refine lwV_out ?_ | refine lwV_out0 ?_ | refine lkC_out ?_ | refine And.intro (by omega) ?_ | fail)
    refine vany_end (by kernel_rfl) ?_
    repeat (first | (simp (maxSteps := 1000000) only [↓reduceIte, go_sem, e1]) | (simp (maxSteps := 1000000) (disch := first | omega | assumption) only [BB, e1]) | with_reducible refine Gst.now ?_ | with_reducible refine vawp_draw mixed (by kernel_rfl) ?_ | with_reducible first | refine lwV_out ?_ | refine lwV_out0 ?_ | refine lkC_out ?_ | refine And.intro (by omega) ?_ | fail)
    refine hq _ _ ?_
    repeat (first | (simp (maxSteps := 1000000) only [↓reduceIte, go_sem, e1]) | (simp (maxSteps := 1000000) (disch := first | omega | assumption) only [BB, e1]) | with_reducible refine Gst.now ?_ | with_reducible refine vawp_draw mixed (by kernel_rfl) ?_ | with_reducible first | refine lwV_out ?_ | refine lwV_out0 ?_ | refine lkC_out ?_ | refine And.intro (by omega) ?_ | fail)
    refine .drop p ?_
    repeat (first | (simp (maxSteps := 1000000) only [↓reduceIte, go_sem, e1]) | (simp (maxSteps := 1000000) (disch := first | omega | assumption) only [BB, e1]) | with_reducible refine Gst.now ?_ | with_reducible refine vawp_draw mixed (by kernel_rfl) ?_ | with_reducible first | refine lwV_out ?_ | refine lwV_out0 ?_ | refine lkC_out ?_ | refine And.intro (by omega) ?_ | fail)
    refine FrK.now (hcast (hK) ?_)
    first | rfl | (funext i; simp only [hset, hdel]; repeat' split) <;> (first | rfl | (subst_vars; simp_all [hset, hdel]; done) | (subst_vars; exfalso; simp_all [hset, hdel]; done))
/-- What is laid behind. -/
def layW (sz : Nat) (X : List RowV) (L b : List Nat) : List RowV × List Nat := if sz - L.length < b.length then (X ++ [⟨false, L⟩], b) else (X, L ++ b)
theorem WrS_L {h0 : VH} {j r k sz : Nat} {X : List RowV} {L : List Nat} (n1 : j ≠ r) (n2 : j ≠ k) (n3 : r ≠ k) : WrL (WrS h0 j r k sz X L) j r k sz X.length L.length := by
  unfold WrS
  refine ⟨blkV_set, ⟨_, by rw [blkV_nset (Ne.symm n1)]; exact blkV_set, getq_last (row_len X)⟩, ?_⟩
  rw [hset_ne _ _ (Ne.symm n2), hset_ne _ _ (Ne.symm n3), hset_at]; rfl
theorem WrS_k {h0 : VH} {j r k sz : Nat} {X : List RowV} {L : List Nat} (n2 : j ≠ k) (n3 : r ≠ k) : WrS h0 j r k sz X L k = some (.cells 5 false (L.map (iv .u8))) := by
  unfold WrS
  rw [hset_ne _ _ (Ne.symm n2), hset_ne _ _ (Ne.symm n3), hset_at]
theorem WrS_r {h0 : VH} {j r k sz : Nat} {X : List RowV} {L : List Nat} (n1 : j ≠ r) : WrS h0 j r k sz X L r = some (.cells 33 false (X.flatMap rowC ++ [.own k 0 L.length])) := by
  unfold WrS
  rw [hset_ne _ _ (Ne.symm n1), hset_at]
theorem flat_snoc (X : List RowV) (r : RowV) : (X ++ [r]).flatMap rowC = X.flatMap rowC ++ [rowA r] := by rw [List.flatMap_append]; simp [rowC]
theorem lay_v {h0 : VH} {j r k sz : Nat} {X : List RowV} {L b : List Nat} {nl : Bool} {l : Nat} (n1 : j ≠ r) (n2 : j ≠ k) (n3 : r ≠ k) (hj : h0 j = none) (hr : h0 r = none) (hk : h0 k = none) (hl : l = b.length) (hL : L.length ≤ sz) (hsz : sz ≤ 16777216) (hX : X.length ≤ 1000000000) (hb : b ≠ []) (hbl : b.length ≤ sz)
    (hK : ∀ r' k', j ≠ r' → j ≠ k' → r' ≠ k' → h0 r' = none → h0 k' = none → K (.tup []) (WrS h0 j r' k' sz (layW sz X L b).1 (layW sz X L b).2)) : VC Try.prog GL (n + 3) 26 [.op j 0, .isl nl l (b.map (iv .u8))] (WrS h0 j r k sz X L) K := by
  refine VC_go Try.func26 rfl (by decide) Try.ntmps26 Try.results26 rfl fun Q hq hn => ?_
  subst hl
  have hw := WrS_L (h0 := h0) (sz := sz) (X := X) (L := L) n1 n2 n3
  have hb0 : 0 < b.length := List.length_pos_iff.2 hb
  repeat (first | (simp (maxSteps := 1000000) only [↓reduceIte, go_sem]) | (simp (maxSteps := 1000000) (disch := first | omega | assumption) only [BB]) | with_reducible refine Gst.now ?_ | with_reducible refine vawp_draw mixed (by kernel_rfl) ?_ | with_reducible first | refine lwV_out ?_ | refine lwV_out0 ?_ | refine lkC_out ?_ | refine And.intro (by omega) ?_ | fail)
  with_reducible refine call_ok ?_
  refine room_v hw (by omega) hL hsz ?_
  unfold layW at hK
  have hlen := row_len X
  by_cases hlt : sz - L.length < b.length
  · rw [if_pos hlt] at hK
    have e1 := decide_eq_true hlt
    repeat (first | (simp (maxSteps := 1000000) only [↓reduceIte, go_sem, e1]) | (simp (maxSteps := 1000000) (disch := first | omega | assumption) only [BB, e1]) | with_reducible refine vawp_draw mixed (by kernel_rfl) ?_ | with_reducible first | refine lwV_out ?_ | refine lwV_out0 ?_ | refine lkC_out ?_ | refine And.intro (by omega) ?_ | fail)
    refine .frzc (pre := X.flatMap rowC) (post := []) (l := L.length) k r (WrS_k n2 n3) (WrS_r n1) n3 ?_
    refine Gst.cast (h := hset (hset h0 r (.cells 33 false ((X ++ [(⟨false, L⟩ : RowV)]).flatMap rowC))) j (.cells 61 false [(.sc (.int .i64 ((sz : Nat)))), .own r 0 (X.length + 1)])) ?_ ?_
    case refine_2 =>
      rw [flat_snoc]
      unfold WrS
      funext i
      simp only [hset, hdel, rowA]
      repeat' split
      all_goals first | rfl | (subst_vars; simp_all; done) | (exfalso; omega)
    refine .now ?_
    have hlen2 : ((X ++ [(⟨false, L⟩ : RowV)]).flatMap rowC).length = X.length + 1 := by rw [row_len]; simp
    generalize hY : X ++ [(⟨false, L⟩ : RowV)] = Y at *
    repeat (first | (simp (maxSteps := 1000000) only [↓reduceIte, go_sem, e1]) | (simp (maxSteps := 1000000) (disch := first | omega | assumption) only [BB, e1]) | with_reducible refine Gst.now ?_ | with_reducible refine vawp_draw mixed (by kernel_rfl) ?_ | with_reducible first | refine lwV_out ?_ | refine lwV_out0 ?_ | refine lkC_out ?_ | refine And.intro (by omega) ?_ | fail)
    refine vBuildS_i bs29 ?_ ?_ ?_ ?_ ?_
    rfl
    rfl
    rfl
    rfl
    repeat (first | (simp (maxSteps := 1000000) only [↓reduceIte, go_sem]) | (simp (maxSteps := 1000000) (disch := first | omega | assumption) only [BB]) | with_reducible refine Gst.now ?_ | with_reducible refine vawp_draw mixed (by kernel_rfl) ?_ | with_reducible first | refine lwV_out ?_ | refine lwV_out0 ?_ | refine lkC_out ?_ | refine And.intro (by omega) ?_ | fail)
    apply vApp_own_isl ap29 (by simp only [go_sem])
    case hv => first | (simp [hlen2]; done) | (simp [hlen2]; omega) | rfl | assumption
    case hj => repeat (first | exact hset_at _ _ _ | assumption | refine (hset_ne _ _ (by first | omega | assumption)).trans ?_ | refine (hdel_ne _ (by first | omega | assumption)).trans ?_ | fail)
    case hl => first | (simp [hlen2]; done) | (simp [hlen2]; omega) | rfl | assumption
    case h1 => first | omega | (simp [hlen2]; omega) | (simp [hlen2]; done)
    case h2 => first | omega | (simp [hlen2]; omega) | (simp [hlen2]; done)
    intro r' hr'
    try simp (disch := first | omega | assumption) only [go_sem, hset_none, hdel_none] at hr'
    try simp (disch := first | omega | assumption) only [hset_none, hdel_none] at hr'
    repeat (first | (simp (maxSteps := 1000000) only [↓reduceIte, go_sem, e1]) | (simp (maxSteps := 1000000) (disch := first | omega | assumption) only [BB, e1]) | with_reducible refine Gst.now ?_ | with_reducible refine vawp_draw mixed (by kernel_rfl) ?_ | with_reducible first | refine lwV_out ?_ | refine lwV_out0 ?_ | refine lkC_out ?_ | refine And.intro (by omega) ?_ | fail)
    have hJ : blkV (hset (hset (hset h0 j (.cells 61 false [(.sc (.int .i64 ((sz : Nat)))), .own r 0 (X.length + 1)])) r' (.cells 33 false (Y.flatMap rowC ++ [.isl true 0 []]))) j (.cells 61 false [(.sc (.int .i64 ((sz : Nat)))), .own r' 0 (X.length + 1 + 1)])) j = some _ := blkV_set
    have hR : isC (hset (hset (hset h0 j (.cells 61 false [(.sc (.int .i64 ((sz : Nat)))), .own r 0 (X.length + 1)])) r' (.cells 33 false (Y.flatMap rowC ++ [.isl true 0 []]))) j (.cells 61 false [(.sc (.int .i64 ((sz : Nat)))), .own r' 0 (X.length + 1 + 1)]) r') = true := by
      rw [hset_ne _ _ hr'.1, hset_at]; rfl
    have e2 := getq_last (v := .isl true 0 []) hlen2
    have e4 : (Y.flatMap rowC ++ [AV.isl true 0 []]).length = X.length + 1 + 1 := by rw [List.length_append, hlen2]; rfl
    with_reducible refine call_ok ?_
    refine last_v hJ hR (by omega) ?_
    repeat (first | (simp (maxSteps := 1000000) only [↓reduceIte, go_sem, e1, e2, e4]) | (simp (maxSteps := 1000000) (disch := first | omega | assumption) only [BB, e1, e2, e4]) | with_reducible refine Gst.now ?_ | with_reducible refine vawp_draw mixed (by kernel_rfl) ?_ | with_reducible first | refine lwV_out ?_ | refine lwV_out0 ?_ | refine lkC_out ?_ | refine And.intro (by omega) ?_ | fail)
    with_reducible refine call_ok ?_
    refine last_v hJ hR (by omega) ?_
    repeat (first | (simp (maxSteps := 1000000) only [↓reduceIte, go_sem, e1, e2, e4]) | (simp (maxSteps := 1000000) (disch := first | omega | assumption) only [BB, e1, e2, e4]) | with_reducible refine Gst.now ?_ | with_reducible refine vawp_draw mixed (by kernel_rfl) ?_ | with_reducible first | refine lwV_out ?_ | refine lwV_out0 ?_ | refine lkC_out ?_ | refine And.intro (by omega) ?_ | fail)
    apply vApp_nil_isl ap33 (by simp only [go_sem])
    case hv => first | (simp []; done) | (simp []; omega) | rfl | assumption
    case h1 => first | omega | (simp []; omega) | (simp []; done)
    case h2 => first | omega | (simp []; omega) | (simp []; done)
    try (case hK0 => first | (intro hh; omega) | (intro hh; exact absurd hh (by decide)))
    intro _ k' hk'
    try simp (disch := first | omega | assumption) only [go_sem, hset_none, hdel_none] at hk'
    try simp (disch := first | omega | assumption) only [hset_none, hdel_none] at hk'
    have e3 := setV_last (v := .isl true 0 []) (w := .own k' 0 b.length) hlen2
    repeat (first | (simp (maxSteps := 1000000) only [↓reduceIte, go_sem, e1, e2, e4, e3]) | (simp (maxSteps := 1000000) (disch := first | omega | assumption) only [BB, e1, e2, e4, e3]) | with_reducible refine Gst.now ?_ | with_reducible refine vawp_draw mixed (by kernel_rfl) ?_ | with_reducible first | refine lwV_out ?_ | refine lwV_out0 ?_ | refine lkC_out ?_ | refine And.intro (by omega) ?_ | fail)
    refine hn _ _ ?_
    repeat (first | (simp (maxSteps := 1000000) only [↓reduceIte, go_sem, e1, e2, e4, e3]) | (simp (maxSteps := 1000000) (disch := first | omega | assumption) only [BB, e1, e2, e4, e3]) | with_reducible refine Gst.now ?_ | with_reducible refine vawp_draw mixed (by kernel_rfl) ?_ | with_reducible first | refine lwV_out ?_ | refine lwV_out0 ?_ | refine lkC_out ?_ | refine And.intro (by omega) ?_ | fail)
    have hYl : Y.length = X.length + 1 := by rw [← hY]; simp
    refine .now (hcast (hK r' k' (by omega) (by omega) (by omega) hr'.2 hk'.2.2.2) ?_)
    unfold WrS
    rw [hYl]
    funext i
    simp only [hset, hdel]
    repeat' split
    all_goals first | rfl | (subst_vars; simp_all; done) | (exfalso; omega)
  · rw [if_neg hlt] at hK
    have e1 := decide_eq_false hlt
    unfold WrS at hw ⊢
    have hJ := hw.j
    have hR : isC (hset (hset (hset h0 k (.cells 5 false (L.map (iv .u8)))) r (.cells 33 false (X.flatMap rowC ++ [.own k 0 L.length]))) j (.cells 61 false [(.sc (.int .i64 ((sz : Nat)))), .own r 0 (X.length + 1)]) r) = true := by
      rw [hset_ne _ _ (Ne.symm n1), hset_at]; rfl
    have e2 := getq_last (v := .own k 0 L.length) hlen
    have e4 : (X.flatMap rowC ++ [AV.own k 0 L.length]).length = X.length + 1 := by rw [List.length_append, hlen]; rfl
    repeat (first | (simp (maxSteps := 1000000) only [↓reduceIte, go_sem, e1, e2, e4]) | (simp (maxSteps := 1000000) (disch := first | omega | assumption) only [BB, e1, e2, e4]) | with_reducible refine Gst.now ?_ | with_reducible refine vawp_draw mixed (by kernel_rfl) ?_ | with_reducible first | refine lwV_out ?_ | refine lwV_out0 ?_ | refine lkC_out ?_ | refine And.intro (by omega) ?_ | fail)
    with_reducible refine call_ok ?_
    refine last_v hJ hR (by omega) ?_
    repeat (first | (simp (maxSteps := 1000000) only [↓reduceIte, go_sem, e1, e2, e4]) | (simp (maxSteps := 1000000) (disch := first | omega | assumption) only [BB, e1, e2, e4]) | with_reducible refine Gst.now ?_ | with_reducible refine vawp_draw mixed (by kernel_rfl) ?_ | with_reducible first | refine lwV_out ?_ | refine lwV_out0 ?_ | refine lkC_out ?_ | refine And.intro (by omega) ?_ | fail)
    with_reducible refine call_ok ?_
    refine last_v hJ hR (by omega) ?_
    repeat (first | (simp (maxSteps := 1000000) only [↓reduceIte, go_sem, e1, e2, e4]) | (simp (maxSteps := 1000000) (disch := first | omega | assumption) only [BB, e1, e2, e4]) | with_reducible refine Gst.now ?_ | with_reducible refine vawp_draw mixed (by kernel_rfl) ?_ | with_reducible first | refine lwV_out ?_ | refine lwV_out0 ?_ | refine lkC_out ?_ | refine And.intro (by omega) ?_ | fail)
    apply vApp_own_isl ap33 (by simp only [go_sem])
    case hv => first | (simp []; done) | (simp []; omega) | rfl | assumption
    case hj => repeat (first | exact hset_at _ _ _ | assumption | refine (hset_ne _ _ (by first | omega | assumption)).trans ?_ | refine (hdel_ne _ (by first | omega | assumption)).trans ?_ | fail)
    case hl => first | (simp []; done) | (simp []; omega) | rfl | assumption
    case h1 => first | omega | (simp []; omega) | (simp []; done)
    case h2 => first | omega | (simp []; omega) | (simp []; done)
    intro k' hk'
    try simp (disch := first | omega | assumption) only [go_sem, hset_none, hdel_none] at hk'
    try simp (disch := first | omega | assumption) only [hset_none, hdel_none] at hk'
    have e3 := setV_last (v := .own k 0 L.length) (w := .own k' 0 (L.length + b.length)) hlen
    repeat (first | (simp (maxSteps := 1000000) only [↓reduceIte, go_sem, e1, e2, e4, e3]) | (simp (maxSteps := 1000000) (disch := first | omega | assumption) only [BB, e1, e2, e4, e3]) | with_reducible refine Gst.now ?_ | with_reducible refine vawp_draw mixed (by kernel_rfl) ?_ | with_reducible first | refine lwV_out ?_ | refine lwV_out0 ?_ | refine lkC_out ?_ | refine And.intro (by omega) ?_ | fail)
    refine hn _ _ ?_
    repeat (first | (simp (maxSteps := 1000000) only [↓reduceIte, go_sem, e1, e2, e4, e3]) | (simp (maxSteps := 1000000) (disch := first | omega | assumption) only [BB, e1, e2, e4, e3]) | with_reducible refine Gst.now ?_ | with_reducible refine vawp_draw mixed (by kernel_rfl) ?_ | with_reducible first | refine lwV_out ?_ | refine lwV_out0 ?_ | refine lkC_out ?_ | refine And.intro (by omega) ?_ | fail)
    have e5 : (L ++ b).length = L.length + b.length := List.length_append
    refine .now (hcast (hK r k' n1 (by omega) (by omega) hr hk'.2.2) ?_)
    unfold WrS
    rw [e5, List.map_append]
    funext i
    simp only [hset, hdel]
    repeat' split
    all_goals first | rfl | (subst_vars; simp_all; done) | (exfalso; omega)
end
end Go.Proofs.Ytbmikefignmkdaa.VSpan
