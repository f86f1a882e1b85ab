/- package span, over the machine of values: places, records, data. -/
import Derived.Test.YtbmikefignmkdaaProg
import Derived.Test.YtbmikefignmkdaaAbV16
import Derived.Test.YtbmikefignmkdaaAbFacts
import Derived.Test.YtbmikefignmkdaaAbVRow1
import Derived.Test.YtbmikefignmkdaaAbLittleM
import Derived.Test.YtbmikefignmkdaaAbVPut
import Derived.Test.YtbmikefignmkdaaAbVSame
import Derived.Test.YtbmikefignmkdaaAbVJoin
import Derived.Test.YtbmikefignmkdaaAbVSpan
import Derived.KernelRfl
import Derived.Laws.BitsAllLaws
set_option linter.unusedVariables false
set_option linter.unusedSimpArgs false
set_option maxRecDepth 100000
set_option maxHeartbeats 4000000
namespace Go.Proofs.Ytbmikefignmkdaa.VSpan2
open Go.RowKit Go.Proofs.AbM Go.Proofs.Ytbmikefignmkdaa.Facts Go.Proofs.Ytbmikefignmkdaa.VRow1 Go.Proofs.Ytbmikefignmkdaa.LittleM Go.Proofs.Ytbmikefignmkdaa.VPut Go.Proofs.Ytbmikefignmkdaa.VSame Go.Proofs.Ytbmikefignmkdaa.VJoin Go.Proofs.Ytbmikefignmkdaa.VSpan
attribute [local go_sem] vawp_skip_eq vawp_seq_eq vawp_region_eq vawp_cond_g vawp_block_eq vawp_exit_eq vawp_ret_eq thenV_ret thenV_exit thenV_normal inBlockV_normal inBlockV_ret inBlockV_exit resKV_nil resKV_tmp resKV_cell oneV_one oneV_nil oneV_more initV_nil initV_cons updV_at evv_tmp evv_func evv_global evv_int evv_bool evv_str evv_snil evv_pnil evv_agg ofV3_int ofV3_bool ofV3_str ofV3_snil ofV3_pnil vok_tmp vok_func vok_global vok_int vok_bool vok_str vok_snil vok_pnil vok_agg cloV3_int cloV3_bool cloV3_str cloV3_snil cloV3_pnil voks_nil voks_cons scV_int scV_bool scV_str isBlV_b isBV_t isBV_f lwV_none lwV_sc lwV_agg lwV_tup lwV_isl lwV_own lwV_op lwV_ip lwV_fn lwV_junk vops_nil vops_n vops_s gsN_eq vop dstOk_some dstOk_none pkV_b blkV_set eRead_f eRead_t vLoad_op vLoad_ip vStore_op cells_sc cells_isl cells_own cells_op cells_ip cells_fn cells_agg parts_sc parts_isl parts_own parts_op parts_ip parts_fn parts_agg one_sc one_isl one_own one_op one_ip one_fn vField_op vField_ip ePart_f ePart_t vFieldV_agg vIx_isl vIx_own vIx_op vIx_ip vIxV_agg vIxV_str vLen_str vLen_isl vLen_own vLen_agg bndE_none bndE_int vSlice_isl vSlice_str vBin_add vBin_sub vBin_mul vBin_quo vBin_rem vBin_and vBin_or vBin_xor vBin_andNot vBin_eql vBin_neq vBin_lss vBin_leq vBin_gtr vBin_geq vBin_shr_i8 vBin_shl_i8 vBin_shr_i16 vBin_shl_i16 vBin_shr_i32 vBin_shl_i32 vBin_shr_i64 vBin_shl_i64 vBin_shr_u8 vBin_shl_u8 vBin_shr_u16 vBin_shl_u16 vBin_shr_u32 vBin_shl_u32 vBin_shr_u64 vBin_shl_u64 vBin_seq vBin_sne vBin_isln vBin_opn vBin_ipn ex_sc ex_sc2 ex_sc3 ex_tup calleeV wSc_pb wSc_pi wSc_not wSc_neg wSc_com wSc_min2 wSc_max2 vfold_nil vfold_one vfold_cons vfill_nil vfill_e eFill_s vBuild vBox vAlloc setV_map setV_zs setV_zn setV_s hset_hset eConv_ss vConv_e iv_eq ivI_eq ex_get ex_getI set_iv set_ivI okNil isNilV isSlV hdel_at hset_at List.map_toArray List.map_cons List.map_nil List.nil_append List.cons_append List.append_nil List.toList_toArray List.getElem?_toArray List.getElem_toArray List.getElem_cons_zero List.getElem_cons_succ List.getElem?_cons_zero List.getElem?_cons_succ List.set_cons_zero List.set_cons_succ List.set_set List.length_cons List.length_nil List.length_set List.length_map List.all_cons List.all_nil List.drop_zero List.drop_succ_cons List.take_succ_cons List.take_zero List.flatMap_cons Bool.and_eq_true true_and and_true if_true if_false ite_true ite_false forall_eq' forall_eq exists_eq_left exists_eq_left' exists_eq' Value.bool.injEq Value.int.injEq Value.string.injEq Value.pointer.injEq Option.some.injEq AV.sc.injEq AV.op.injEq AV.ip.injEq AV.own.injEq AV.agg.injEq VB.cells.injEq VB.iter.injEq Prod.mk.injEq decide_eq_true_eq decide_eq_false_iff_not Nat.reduceEqDiff Nat.reduceLT Nat.reduceLeDiff Nat.reduceSub Nat.reduceBEq reduceIte Int.reduceLE Int.reduceLT Int.reduceToNat Int.reduceNeg Int.reduceEq Int.reduceNe Int.cast_ofNat_Int Nat.reduceMul Nat.reduceAdd Nat.reduceDiv Nat.reduceMod Nat.reducePow Int.reduceSub Int.reduceAdd Int.reduceMul Int.reducePow Option.isSome_some Option.isSome_none Option.bind_some Option.map_some Option.map_none Option.toList_some Option.toList_none true_or or_true or_false false_or Bool.not_true Bool.not_false Bool.not_eq_true Bool.false_eq_true Bool.not_not false_implies true_implies implies_true Nat.zero_add Nat.add_zero Nat.mul_one Bool.not_eq_true' Bool.true_eq_false Bool.and_true Bool.true_and Bool.and_false Bool.false_and Bool.or_true Bool.true_or Bool.or_false Bool.false_or Option.isNone_some Option.isNone_none Int.reduceBEq Int.reduceBNe beq_self_eq_true bne_self_eq_false beq_iff_eq not_false_eq_true not_true_eq_false Decidable.not_not bne_iff_ne ne_eq Int.toNat_natCast gt_lt ge_le c_add c_mul c_sub c_addn c_nadd c_muln c_nmul c_subn c_nsub c_divn c_modn c_div c_mod c_tdivn c_tmodn c_tdiv c_tmod c_pow c_nn c_beq c_beqn c_bne c_bnen wr64 wr32 wru64 wru32 wru16 wru8 c_if c_if1 c_if2 c_lt c_le c_eq c_ltn c_len c_nlt c_nle c_eqn m_drop m_take Nat.add_sub_cancel_left Nat.add_sub_cancel Int.reduceTMod Int.reduceTDiv Int.reduceMod Int.reduceDiv isC_some hset_ne hdel_ne hdel_hset hdel_hset_ne blkV_nset blkV_ndel hset_hdel gV_t gV_f isGdV_b isGdV_u isBV_u isGdV_g isBV_gt isBV_gf decide_true decide_false Bool.or_eq_false_iff eq_self Nat.lt_irrefl Int.lt_irrefl Nat.le_refl Int.le_refl
attribute [local go_sem high] vops_pk vops_mv vops_as vops_smv pk_and pk_or pk_gand pk_gor pk_orn pk_gorn
attribute [local go_sem] ag3 sz3 zc3 ik3 ag4 sz4 zc4 ag5 sz5 zc5 ik5 ag9 sz9 zc9 iq9 ag22 sz22 el22 zc22 is22 ag25 sz25 zc25 pt25 ag26 sz26 zc26 ik26 ag29 sz29 el29 zc29 is29 ag31 sz31 zc31 bo31 ag33 sz33 el33 zc33 is33 ag35 sz35 zc35 bo35 ag37 sz37 zc37 eqs37 nes37 bo37 ag51 sz51 el51 zc51 is51 ag59 sz59 zc59 ik59 ag61 sz61 zc61 bo61 ag67 sz67 zc67 of31_0 fd31_0 of31_1 fd31_1 of35_0 fd35_0 of35_1 fd35_1 of37_0 fd37_0 of37_1 fd37_1 of61_0 fd61_0 of61_1 fd61_1 eqb neb
section
variable {n : Nat} {h : VH} {K : AV → VH → Prop}
attribute [local go_sem] rowC rowA ex_row row_len row_take row_drop Nat.sub_zero Nat.zero_le
theorem WrS_hset {h0 : VH} {j r k sz p : Nat} {X : List RowV} {L : List Nat} {B : VB} (h1 : p ≠ j) (h2 : p ≠ r) (h3 : p ≠ k) : hset (WrS h0 j r k sz X L) p B = WrS (hset h0 p B) j r k sz X L := by
  unfold WrS
  rw [hset_comm h1, hset_comm h2, hset_comm h3]
theorem hdel_comm_hset {h : VH} {i j : Nat} {b : VB} (hn : i ≠ j) : hdel (hset h j b) i = hset (hdel h i) j b := hdel_hset_ne hn
theorem WrS_hdel {h0 : VH} {j r k sz p : Nat} {X : List RowV} {L : List Nat} (h1 : p ≠ j) (h2 : p ≠ r) (h3 : p ≠ k) : hdel (WrS h0 j r k sz X L) p = WrS (hdel h0 p) j r k sz X L := by
  unfold WrS
  rw [hdel_hset_ne h1, hdel_hset_ne h2, hdel_hset_ne h3]
theorem WrS_none {h0 : VH} {j r k sz p : Nat} {X : List RowV} {L : List Nat} : (WrS h0 j r k sz X L p = none) = (p ≠ j ∧ p ≠ r ∧ p ≠ k ∧ h0 p = none) := by
  unfold WrS
  rw [hset_none, hset_none, hset_none]
theorem blkV_WrS {h0 : VH} {j r k sz p : Nat} {X : List RowV} {L : List Nat} (h1 : p ≠ j) (h2 : p ≠ r) (h3 : p ≠ k) : blkV (WrS h0 j r k sz X L) p = blkV h0 p := by
  unfold WrS
  rw [blkV_nset h1, blkV_nset h2, blkV_nset h3]
/-- How many bytes a place is asked for. -/
def clampW (sz : Nat) (a : Int) : Nat := min (max a 1).toNat sz
theorem clampW_eq (sz : Nat) (a : Int) : (if (sz : Int) < (if a < 1 then 1 else a) then (sz : Int) else (if a < 1 then 1 else a)) = ((clampW sz a : Nat) : Int) := by
  unfold clampW; split <;> split at * <;> omega
theorem next_v {j r k sz m l : Nat} {a : Int} (hw : WrL h j r k sz m l) (hm : m ≤ 140737488355328) (hl : l ≤ sz) (hsz : sz ≤ 16777216) (hK : K (.agg [(.sc (.int .i64 (((placeW sz m l (clampW sz a)).1 : Nat)))), (.sc (.int .i64 (((placeW sz m l (clampW sz a)).2 : Nat))))]) h) : VC Try.prog GL (n + 4) 17 [.op j 0, (.sc (.int .i64 (a)))] h K := by
  refine VC_go Try.func17 rfl (by decide) Try.ntmps17 Try.results17 rfl fun Q hq hn => ?_
  repeat (first | (simp (maxSteps := 1000000) only [↓reduceIte, go_sem]) | (simp (maxSteps := 1000000) (disch := first | omega | assumption) only [BB]) | with_reducible refine Gst.now ?_ | with_reducible refine vawp_draw mixed (by kernel_rfl) ?_ | with_reducible first | refine lwV_out ?_ | refine lwV_out0 ?_ | refine lkC_out ?_ | refine And.intro (by omega) ?_ | fail)
  intro p hp
  have hw' : WrL (hset h p (.cells 37 false [(.sc (.int .i64 (0))), (.sc (.int .i64 (0)))])) j r k sz m l := by
    obtain ⟨hj, ⟨cs, hr, hc⟩, hk⟩ := hw
    refine ⟨by rw [blkV_nset (new_ne hj hp)]; exact hj, ⟨cs, by rw [blkV_nset (new_ne hr hp)]; exact hr, hc⟩, ?_⟩
    rw [hset_ne]
    · exact hk
    · rintro rfl; rw [hp] at hk; cases hk
  have hj := hw'.j
  have e1 := clampW_eq sz a
  repeat (first | (simp (maxSteps := 1000000) only [↓reduceIte, go_sem, hj, e1]) | (simp (maxSteps := 1000000) (disch := first | omega | assumption) only [BB, hj, e1]) | with_reducible refine Gst.now ?_ | with_reducible refine vawp_draw mixed (by kernel_rfl) ?_ | with_reducible first | refine lwV_out ?_ | refine lwV_out0 ?_ | refine lkC_out ?_ | refine And.intro (by omega) ?_ | fail)
  with_reducible refine call_ok ?_
  refine place_v hw' hm hl hsz ?_
  repeat (first | (simp (maxSteps := 1000000) only [↓reduceIte, go_sem, e1]) | (simp (maxSteps := 1000000) (disch := first | omega | assumption) only [BB, e1]) | with_reducible refine Gst.now ?_ | with_reducible refine vawp_draw mixed (by kernel_rfl) ?_ | with_reducible first | refine lwV_out ?_ | refine lwV_out0 ?_ | refine lkC_out ?_ | refine And.intro (by omega) ?_ | fail)
  refine hq _ _ ?_
  repeat (first | (simp (maxSteps := 1000000) only [↓reduceIte, go_sem, e1]) | (simp (maxSteps := 1000000) (disch := first | omega | assumption) only [BB, e1]) | with_reducible refine Gst.now ?_ | with_reducible refine vawp_draw mixed (by kernel_rfl) ?_ | with_reducible first | refine lwV_out ?_ | refine lwV_out0 ?_ | refine lkC_out ?_ | refine And.intro (by omega) ?_ | fail)
  refine .drop p ?_
  repeat (first | (simp (maxSteps := 1000000) only [↓reduceIte, go_sem, e1]) | (simp (maxSteps := 1000000) (disch := first | omega | assumption) only [BB, e1]) | with_reducible refine Gst.now ?_ | with_reducible refine vawp_draw mixed (by kernel_rfl) ?_ | with_reducible first | refine lwV_out ?_ | refine lwV_out0 ?_ | refine lkC_out ?_ | refine And.intro (by omega) ?_ | fail)
  refine FrK.now (hcast (hK) ?_)
  first | rfl | (funext i; simp only [hset, hdel]; repeat' split) <;> (first | rfl | (subst_vars; simp_all [hset, hdel]; done) | (subst_vars; exfalso; simp_all [hset, hdel]; done))
theorem record_v {h0 : VH} {j r k sz : Nat} {X : List RowV} {L b : List Nat} {nl : Bool} {l : Nat} (n1 : j ≠ r) (n2 : j ≠ k) (n3 : r ≠ k) (hj : h0 j = none) (hr : h0 r = none) (hk : h0 k = none) (hl : l = b.length) (hL : L.length ≤ sz) (hsz : sz ≤ 16777216) (hX : X.length ≤ 1000000000) (hb140 : b.length ≤ 140737488355328)
    (hK0 : ¬ (0 < b.length ∧ b.length ≤ sz) → K (.tup [.agg [(.sc (.int .i64 (0))), (.sc (.int .i64 (0)))], (.sc (.int .i64 (50)))]) (WrS h0 j r k sz X L))
    (hK1 : 0 < b.length → b.length ≤ sz → ∀ r' k', j ≠ r' → j ≠ k' → r' ≠ k' → h0 r' = none → h0 k' = none → K (.tup [.agg [(.sc (.int .i64 (((placeW sz X.length L.length b.length).1 : Nat)))), (.sc (.int .i64 (((placeW sz X.length L.length b.length).2 : Nat))))], (.sc (.int .i64 (0)))]) (WrS h0 j r' k' sz (layW sz X L b).1 (layW sz X L b).2)) : VC Try.prog GL (n + 4) 11 [.op j 0, .isl nl l (b.map (iv .u8))] (WrS h0 j r k sz X L) K := by
  refine VC_go Try.func11 rfl (by decide) Try.ntmps11 Try.results11 rfl fun Q hq hn => ?_
  subst hl
  repeat (first | (simp (maxSteps := 1000000) only [↓reduceIte, go_sem]) | (simp (maxSteps := 1000000) (disch := first | omega | assumption) only [BB]) | with_reducible refine Gst.now ?_ | with_reducible refine vawp_draw mixed (by kernel_rfl) ?_ | with_reducible first | refine lwV_out ?_ | refine lwV_out0 ?_ | refine lkC_out ?_ | refine And.intro (by omega) ?_ | fail)
  intro p hp
  rw [WrS_none] at hp
  obtain ⟨p1, p2, p3, p4⟩ := hp
  rw [WrS_hset p1 p2 p3]
  have hw := WrS_L (h0 := hset h0 p (.cells 37 false [(.sc (.int .i64 (0))), (.sc (.int .i64 (0)))])) (sz := sz) (X := X) (L := L) n1 n2 n3
  have hJ := hw.j
  have e4 := @WrS_hset
  have e5 := @WrS_hdel
  have e6 := @blkV_WrS
  have e7 := fun B => hdel_hset (b := B) p4
  by_cases h1 : 0 < b.length
  · have e1 : (b.length == 0) = false := beq_false_of_ne (by omega)
    by_cases h2 : sz < b.length
    · have e2 := decide_eq_true h2
      repeat (first | (simp (maxSteps := 1000000) only [↓reduceIte, go_sem, hJ, e4, e5, e6, e7, e1, e2]) | (simp (maxSteps := 1000000) (disch := first | omega | assumption) only [BB, hJ, e4, e5, e6, e7, e1, e2]) | with_reducible refine Gst.now ?_ | with_reducible refine vawp_draw mixed (by kernel_rfl) ?_ | with_reducible first | refine lwV_out ?_ | refine lwV_out0 ?_ | refine lkC_out ?_ | refine And.intro (by omega) ?_ | fail)
      refine hq _ _ ?_
      repeat (first | (simp (maxSteps := 1000000) only [↓reduceIte, go_sem, e4, e5, e6, e7, e1, e2]) | (simp (maxSteps := 1000000) (disch := first | omega | assumption) only [BB, e4, e5, e6, e7, e1, e2]) | with_reducible refine Gst.now ?_ | with_reducible refine vawp_draw mixed (by kernel_rfl) ?_ | with_reducible first | refine lwV_out ?_ | refine lwV_out0 ?_ | refine lkC_out ?_ | refine And.intro (by omega) ?_ | fail)
      refine .drop p ?_
      repeat (first | (simp (maxSteps := 1000000) only [↓reduceIte, go_sem, e4, e5, e6, e7, e1, e2]) | (simp (maxSteps := 1000000) (disch := first | omega | assumption) only [BB, e4, e5, e6, e7, e1, e2]) | with_reducible refine Gst.now ?_ | with_reducible refine vawp_draw mixed (by kernel_rfl) ?_ | with_reducible first | refine lwV_out ?_ | refine lwV_out0 ?_ | refine lkC_out ?_ | refine And.intro (by omega) ?_ | fail)
      exact .now (hK0 (by omega))
    · have e2 := decide_eq_false h2
      repeat (first | (simp (maxSteps := 1000000) only [↓reduceIte, go_sem, hJ, e4, e5, e6, e7, e1, e2]) | (simp (maxSteps := 1000000) (disch := first | omega | assumption) only [BB, hJ, e4, e5, e6, e7, e1, e2]) | with_reducible refine Gst.now ?_ | with_reducible refine vawp_draw mixed (by kernel_rfl) ?_ | with_reducible first | refine lwV_out ?_ | refine lwV_out0 ?_ | refine lkC_out ?_ | refine And.intro (by omega) ?_ | fail)
      with_reducible refine call_ok ?_
      refine place_v hw (by omega) hL hsz ?_
      repeat (first | (simp (maxSteps := 1000000) only [↓reduceIte, go_sem, e4, e5, e6, e7, e1, e2]) | (simp (maxSteps := 1000000) (disch := first | omega | assumption) only [BB, e4, e5, e6, e7, e1, e2]) | with_reducible refine Gst.now ?_ | with_reducible refine vawp_draw mixed (by kernel_rfl) ?_ | with_reducible first | refine lwV_out ?_ | refine lwV_out0 ?_ | refine lkC_out ?_ | refine And.intro (by omega) ?_ | fail)
      intro q hq1
      rw [WrS_none] at hq1
      obtain ⟨q1, q2, q3, q4⟩ := hq1
      rw [hset_none] at q4
      rw [WrS_hset q1 q2 q3]
      repeat (first | (simp (maxSteps := 1000000) only [↓reduceIte, go_sem, e4, e5, e6, e7, e1, e2]) | (simp (maxSteps := 1000000) (disch := first | omega | assumption) only [BB, e4, e5, e6, e7, e1, e2]) | with_reducible refine Gst.now ?_ | with_reducible refine vawp_draw mixed (by kernel_rfl) ?_ | with_reducible first | refine lwV_out ?_ | refine lwV_out0 ?_ | refine lkC_out ?_ | refine And.intro (by omega) ?_ | fail)
      refine call_ok (lay_v n1 n2 n3 ?_ ?_ ?_ rfl hL hsz hX (List.length_pos_iff.1 h1) (by omega) ?_)
      · rw [hset_none, hset_none]; exact ⟨by omega, by omega, hj⟩
      · rw [hset_none, hset_none]; exact ⟨by omega, by omega, hr⟩
      · rw [hset_none, hset_none]; exact ⟨by omega, by omega, hk⟩
      intro r' k' m1 m2 m3 hr' hk'
      rw [hset_none, hset_none] at hr' hk'
      have e8 := fun B => hdel_hset (b := B) q4.2
      repeat (first | (simp (maxSteps := 1000000) only [↓reduceIte, go_sem, e4, e5, e6, e7, e1, e2, e8]) | (simp (maxSteps := 1000000) (disch := first | omega | assumption) only [BB, e4, e5, e6, e7, e1, e2, e8]) | with_reducible refine Gst.now ?_ | with_reducible refine vawp_draw mixed (by kernel_rfl) ?_ | with_reducible first | refine lwV_out ?_ | refine lwV_out0 ?_ | refine lkC_out ?_ | refine And.intro (by omega) ?_ | fail)
      refine hq _ _ ?_
      repeat (first | (simp (maxSteps := 1000000) only [↓reduceIte, go_sem, e4, e5, e6, e7, e1, e2, e8]) | (simp (maxSteps := 1000000) (disch := first | omega | assumption) only [BB, e4, e5, e6, e7, e1, e2, e8]) | with_reducible refine Gst.now ?_ | with_reducible refine vawp_draw mixed (by kernel_rfl) ?_ | with_reducible first | refine lwV_out ?_ | refine lwV_out0 ?_ | refine lkC_out ?_ | refine And.intro (by omega) ?_ | fail)
      repeat (first | (simp (maxSteps := 1000000) only [↓reduceIte, go_sem, e4, e5, e6, e7, e1, e2, e8]) | (simp (maxSteps := 1000000) (disch := first | omega | assumption) only [BB, e4, e5, e6, e7, e1, e2, e8]) | with_reducible refine Gst.now ?_ | with_reducible refine vawp_draw mixed (by kernel_rfl) ?_ | with_reducible first | refine lwV_out ?_ | refine lwV_out0 ?_ | refine lkC_out ?_ | refine And.intro (by omega) ?_ | fail)
      refine .drop p (.drop q ?_)
      repeat (first | (simp (maxSteps := 1000000) only [↓reduceIte, go_sem, e4, e5, e6, e7, e1, e2, e8]) | (simp (maxSteps := 1000000) (disch := first | omega | assumption) only [BB, e4, e5, e6, e7, e1, e2, e8]) | with_reducible refine Gst.now ?_ | with_reducible refine vawp_draw mixed (by kernel_rfl) ?_ | with_reducible first | refine lwV_out ?_ | refine lwV_out0 ?_ | refine lkC_out ?_ | refine And.intro (by omega) ?_ | fail)
      refine .now (hcast (hK1 h1 (by omega) r' k' m1 m2 m3 hr'.2.2 hk'.2.2) (congrArg (fun z => WrS z j r' k' sz (layW sz X L b).1 (layW sz X L b).2) ?_))
      funext i
      simp only [hset, hdel]
      repeat' split
      all_goals first | rfl | (subst_vars; simp_all; done)
  · have e1 : (b.length == 0) = true := beq_iff_eq.2 (by omega)
    repeat (first | (simp (maxSteps := 1000000) only [↓reduceIte, go_sem, e4, e5, e6, e7, e1]) | (simp (maxSteps := 1000000) (disch := first | omega | assumption) only [BB, e4, e5, e6, e7, e1]) | with_reducible refine Gst.now ?_ | with_reducible refine vawp_draw mixed (by kernel_rfl) ?_ | with_reducible first | refine lwV_out ?_ | refine lwV_out0 ?_ | refine lkC_out ?_ | refine And.intro (by omega) ?_ | fail)
    refine hq _ _ ?_
    repeat (first | (simp (maxSteps := 1000000) only [↓reduceIte, go_sem, e4, e5, e6, e7, e1]) | (simp (maxSteps := 1000000) (disch := first | omega | assumption) only [BB, e4, e5, e6, e7, e1]) | with_reducible refine Gst.now ?_ | with_reducible refine vawp_draw mixed (by kernel_rfl) ?_ | with_reducible first | refine lwV_out ?_ | refine lwV_out0 ?_ | refine lkC_out ?_ | refine And.intro (by omega) ?_ | fail)
    refine .drop p ?_
    repeat (first | (simp (maxSteps := 1000000) only [↓reduceIte, go_sem, e4, e5, e6, e7, e1]) | (simp (maxSteps := 1000000) (disch := first | omega | assumption) only [BB, e4, e5, e6, e7, e1]) | with_reducible refine Gst.now ?_ | with_reducible refine vawp_draw mixed (by kernel_rfl) ?_ | with_reducible first | refine lwV_out ?_ | refine lwV_out0 ?_ | refine lkC_out ?_ | refine And.intro (by omega) ?_ | fail)
    exact .now (hK0 (by omega))
/-- Data, byte by byte. -/
def byteW (sz : Nat) (S : List RowV × List Nat) (c : Nat) : List RowV × List Nat := if S.2.length = sz then (S.1 ++ [⟨false, S.2⟩], [c]) else (S.1, S.2 ++ [c])
def dataW (sz : Nat) (S : List RowV × List Nat) (b : List Nat) : List RowV × List Nat := b.foldl (byteW sz) S
theorem dataW_room {sz : Nat} {X : List RowV} : ∀ (b L : List Nat), L.length + b.length ≤ sz → dataW sz (X, L) b = (X, L ++ b)
  | [], L, _ => by simp [dataW]
  | c :: b, L, h => by
    simp only [List.length_cons] at h
    have := dataW_room (sz := sz) (X := X) b (L ++ [c]) (by simp; omega)
    unfold dataW at this ⊢
    rw [List.foldl_cons, byteW, if_neg (by show ¬ L.length = sz; omega)]
    rw [this]; simp
/-- As many bytes as there is room for, or a volume of them. -/
theorem dataW_chunk {sz : Nat} {X : List RowV} {L b : List Nat} (hL : L.length ≤ sz) (hb : 0 < b.length) (hr : b.length ≤ (if sz - L.length = 0 then sz else sz - L.length)) : dataW sz (X, L) b = layW sz X L b := by
  unfold layW
  split at hr
  · rename_i h0
    rw [if_pos (by omega)]
    cases b with
    | nil => simp at hb
    | cons c b =>
      simp only [List.length_cons] at hr
      have := dataW_room (sz := sz) (X := X ++ [⟨false, L⟩]) b [c] (by simp; omega)
      unfold dataW at this ⊢
      rw [List.foldl_cons, byteW, if_pos (by show L.length = sz; omega)]
      rw [this]; simp
  · rename_i h0
    rw [if_neg (by omega)]
    exact dataW_room b L (by omega)
theorem dataW_app (sz : Nat) (S : List RowV × List Nat) (a b : List Nat) : dataW sz S (a ++ b) = dataW sz (dataW sz S a) b := by unfold dataW; rw [List.foldl_append]
theorem layW_len {sz : Nat} {X : List RowV} {L b : List Nat} (hL : L.length ≤ sz) (hb : b.length ≤ sz) : (layW sz X L b).2.length ≤ sz ∧ (layW sz X L b).1.length ≤ X.length + 1 := by
  unfold layW
  split
  · exact ⟨hb, by simp⟩
  · simp; omega
theorem data_v {h0 : VH} {j r k sz : Nat} {X : List RowV} {L b : List Nat} {nl : Bool} {l : Nat} (n1 : j ≠ r) (n2 : j ≠ k) (n3 : r ≠ k) (hj : h0 j = none) (hr : h0 r = none) (hk : h0 k = none) (hl : l = b.length) (hL : L.length ≤ sz) (hsz : sz ≤ 16777216) (hsz1 : 1 ≤ sz) (hX : X.length + b.length ≤ 1000000000)
    (hK : ∀ r' k', j ≠ r' → j ≠ k' → r' ≠ k' → h0 r' = none → h0 k' = none → K (.agg [(.sc (.int .i64 (((placeW sz X.length L.length 1).1 : Nat)))), (.sc (.int .i64 (((placeW sz X.length L.length 1).2 : Nat))))]) (WrS h0 j r' k' sz (dataW sz (X, L) b).1 (dataW sz (X, L) b).2)) : VC Try.prog GL (n + 4) 13 [.op j 0, .isl nl l (b.map (iv .u8))] (WrS h0 j r k sz X L) K := by
  refine VC_go Try.func13 rfl (by decide) Try.ntmps13 Try.results13 rfl fun Q hq hn => ?_
  subst hl
  repeat (first | (simp (maxSteps := 1000000) only [↓reduceIte, go_sem]) | (simp (maxSteps := 1000000) (disch := first | omega | assumption) only [BB]) | with_reducible refine Gst.now ?_ | with_reducible refine vawp_draw mixed (by kernel_rfl) ?_ | with_reducible first | refine lwV_out ?_ | refine lwV_out0 ?_ | refine lkC_out ?_ | refine And.intro (by omega) ?_ | fail)
  intro p hp
  rw [WrS_none] at hp
  obtain ⟨p1, p2, p3, p4⟩ := hp
  rw [WrS_hset p1 p2 p3]
  have hw := WrS_L (h0 := hset h0 p (.cells 37 false [(.sc (.int .i64 (0))), (.sc (.int .i64 (0)))])) (sz := sz) (X := X) (L := L) n1 n2 n3
  have e4 := @WrS_hset
  have e5 := @WrS_hdel
  have e6 := @blkV_WrS
  have e7 := fun B => hdel_hset (b := B) p4
  repeat (first | (simp (maxSteps := 1000000) only [↓reduceIte, go_sem, e4, e5, e6, e7]) | (simp (maxSteps := 1000000) (disch := first | omega | assumption) only [BB, e4, e5, e6, e7]) | with_reducible refine Gst.now ?_ | with_reducible refine vawp_draw mixed (by kernel_rfl) ?_ | with_reducible first | refine lwV_out ?_ | refine lwV_out0 ?_ | refine lkC_out ?_ | refine And.intro (by omega) ?_ | fail)
  with_reducible refine call_ok ?_
  refine place_v (c := 1) hw (by omega) hL hsz ?_
  repeat (first | (simp (maxSteps := 1000000) only [↓reduceIte, go_sem, e4, e5, e6, e7]) | (simp (maxSteps := 1000000) (disch := first | omega | assumption) only [BB, e4, e5, e6, e7]) | with_reducible refine Gst.now ?_ | with_reducible refine vawp_draw mixed (by kernel_rfl) ?_ | with_reducible first | refine lwV_out ?_ | refine lwV_out0 ?_ | refine lkC_out ?_ | refine And.intro (by omega) ?_ | fail)
  intro q hq1
  rw [WrS_none] at hq1
  obtain ⟨q1, q2, q3, q4⟩ := hq1
  rw [hset_none] at q4
  rw [WrS_hset q1 q2 q3]
  repeat (first | (simp (maxSteps := 1000000) only [↓reduceIte, go_sem, e4, e5, e6, e7]) | (simp (maxSteps := 1000000) (disch := first | omega | assumption) only [BB, e4, e5, e6, e7]) | with_reducible refine Gst.now ?_ | with_reducible refine vawp_draw mixed (by kernel_rfl) ?_ | with_reducible first | refine lwV_out ?_ | refine lwV_out0 ?_ | refine lkC_out ?_ | refine And.intro (by omega) ?_ | fail)
  generalize hpl : placeW sz X.length L.length 1 = pl at *
  refine vawp_loop (k := b.length) (fun d ρ h1 => ∃ (b' : List Nat) (X' : List RowV) (L' : List Nat) (r' k' : Nat), d = b'.length ∧ ρ 0 = .op j 0 ∧ ρ 1 = .isl nl b'.length (b'.map (iv .u8)) ∧ ρ 4 = .op p 0 ∧ ρ 5 = .op q 0 ∧ dataW sz (X, L) b = dataW sz (X', L') b' ∧ L'.length ≤ sz ∧ X'.length + b'.length ≤ 1000000000 ∧ (j ≠ r' ∧ j ≠ k' ∧ r' ≠ k') ∧ (p ≠ r' ∧ p ≠ k' ∧ q ≠ r' ∧ q ≠ k' ∧ h0 r' = none ∧ h0 k' = none) ∧ h1 = WrS (hset (hset h0 p (.cells 37 false [(.sc (.int .i64 (0))), (.sc (.int .i64 (0)))])) q (.cells 37 false [(.sc (.int .i64 ((pl.1 : Nat)))), (.sc (.int .i64 ((pl.2 : Nat))))])) j r' k' sz X' L') ?_ ?_
  · refine ⟨b, X, L, r, k, rfl, ?_⟩
    repeat (first | (simp (maxSteps := 1000000) only [↓reduceIte, go_sem, e4, e5, e6, e7]) | (simp (maxSteps := 1000000) (disch := first | omega | assumption) only [BB, e4, e5, e6, e7]) | with_reducible refine Gst.now ?_ | with_reducible refine vawp_draw mixed (by kernel_rfl) ?_ | with_reducible first | refine lwV_out ?_ | refine lwV_out0 ?_ | refine lkC_out ?_ | refine And.intro (by omega) ?_ | fail)
    exact hk
  · rintro d ρ h1 ⟨b', X', L', r', k', rfl, g0, g1, g4, g5, hd, hL', hX', ⟨m1, m2, m3⟩, ⟨m4, m5, m6, m7, m8, m9⟩, rfl⟩
    have hw' := WrS_L (h0 := (hset (hset h0 p (.cells 37 false [(.sc (.int .i64 (0))), (.sc (.int .i64 (0)))])) q (.cells 37 false [(.sc (.int .i64 ((pl.1 : Nat)))), (.sc (.int .i64 ((pl.2 : Nat))))]))) (sz := sz) (X := X') (L := L') m1 m2 m3
    have hJ := hw'.j
    repeat (first | (simp (maxSteps := 1000000) only [↓reduceIte, go_sem, e4, e5, e6, e7, g0, g1, g4, g5]) | (simp (maxSteps := 1000000) (disch := first | omega | assumption) only [BB, e4, e5, e6, e7, g0, g1, g4, g5]) | with_reducible refine Gst.now ?_ | with_reducible refine vawp_draw mixed (by kernel_rfl) ?_ | with_reducible first | refine lwV_out ?_ | refine lwV_out0 ?_ | refine lkC_out ?_ | refine And.intro (by omega) ?_ | fail)
    split
    · rename_i h0b
      repeat (first | (simp (maxSteps := 1000000) only [↓reduceIte, go_sem, e4, e5, e6, e7, g0, g1, g4, g5]) | (simp (maxSteps := 1000000) (disch := first | omega | assumption) only [BB, e4, e5, e6, e7, g0, g1, g4, g5]) | with_reducible refine Gst.now ?_ | with_reducible refine vawp_draw mixed (by kernel_rfl) ?_ | with_reducible first | refine lwV_out ?_ | refine lwV_out0 ?_ | refine lkC_out ?_ | refine And.intro (by omega) ?_ | fail)
      with_reducible refine call_ok ?_
      refine room_v hw' (by omega) hL' hsz ?_
      by_cases hz : sz - L'.length = 0
      · have e1 : (sz - L'.length == 0) = true := beq_iff_eq.2 hz
        obtain ⟨M, hM0⟩ : ∃ M, min (sz) b'.length = M := ⟨_, rfl⟩
        have e2 : ∀ inst : Decidable (b'.length < sz), @ite Nat (b'.length < sz) inst b'.length (sz) = M := fun inst => by split <;> omega
        have hM : M ≤ b'.length ∧ 0 < M ∧ M ≤ sz := by omega
        have hMl : (b'.take M).length = M := by rw [List.length_take]; omega
        have hch : dataW sz (X', L') b' = dataW sz (layW sz X' L' (b'.take M)) (b'.drop M) := by
          have h1 := dataW_chunk (sz := sz) (X := X') (L := L') (b := b'.take M) hL' (by omega) (by rw [hMl]; split <;> omega)
          rw [← h1, ← dataW_app, List.take_append_drop]
        have hll := layW_len (sz := sz) (X := X') (L := L') (b := b'.take M) hL' (by omega)
        repeat (first | (simp (maxSteps := 1000000) only [↓reduceIte, go_sem, hJ, e4, e5, e6, e7, g0, g1, g4, g5, e1, e2]) | (simp (maxSteps := 1000000) (disch := first | omega | assumption) only [BB, hJ, e4, e5, e6, e7, g0, g1, g4, g5, e1, e2]) | with_reducible refine Gst.now ?_ | with_reducible refine vawp_draw mixed (by kernel_rfl) ?_ | with_reducible first | refine lwV_out ?_ | refine lwV_out0 ?_ | refine lkC_out ?_ | refine And.intro (by omega) ?_ | fail)
        refine call_ok (lay_v m1 m2 m3 ?_ ?_ ?_ hMl.symm hL' hsz (by omega) (List.length_pos_iff.1 (by omega)) (by omega) ?_)
        · rw [hset_none, hset_none]; exact ⟨by omega, by omega, hj⟩
        · rw [hset_none, hset_none]; exact ⟨by omega, by omega, m8⟩
        · rw [hset_none, hset_none]; exact ⟨by omega, by omega, m9⟩
        intro r2 k2 l1 l2 l3 hr2 hk2
        rw [hset_none, hset_none] at hr2 hk2
        have hdl : (b'.drop M).length = b'.length - M := List.length_drop ..
        repeat (first | (simp (maxSteps := 1000000) only [↓reduceIte, go_sem, e4, e5, e6, e7, g0, g1, g4, g5, e1, e2]) | (simp (maxSteps := 1000000) (disch := first | omega | assumption) only [BB, e4, e5, e6, e7, g0, g1, g4, g5, e1, e2]) | with_reducible refine Gst.now ?_ | with_reducible refine vawp_draw mixed (by kernel_rfl) ?_ | with_reducible first | refine lwV_out ?_ | refine lwV_out0 ?_ | refine lkC_out ?_ | refine And.intro (by omega) ?_ | fail)
        refine ⟨b'.length - M, by omega, b'.drop M, (layW sz X' L' (b'.take M)).1, (layW sz X' L' (b'.take M)).2, r2, k2, hdl.symm, ?_, hd.trans hch, hll.1, by omega, ⟨l1, l2, l3⟩, ⟨by omega, by omega, by omega, by omega, hr2.2.2, hk2.2.2⟩, rfl⟩
        rw [hdl, List.take_of_length_le (i := b'.length - M) (by omega)]
      · have e1 : (sz - L'.length == 0) = false := beq_false_of_ne hz
        obtain ⟨M, hM0⟩ : ∃ M, min (sz - L'.length) b'.length = M := ⟨_, rfl⟩
        have e2 : ∀ inst : Decidable (b'.length < sz - L'.length), @ite Nat (b'.length < sz - L'.length) inst b'.length (sz - L'.length) = M := fun inst => by split <;> omega
        have hM : M ≤ b'.length ∧ 0 < M ∧ M ≤ sz - L'.length := by omega
        have hMl : (b'.take M).length = M := by rw [List.length_take]; omega
        have hch : dataW sz (X', L') b' = dataW sz (layW sz X' L' (b'.take M)) (b'.drop M) := by
          have h1 := dataW_chunk (sz := sz) (X := X') (L := L') (b := b'.take M) hL' (by omega) (by rw [hMl]; split <;> omega)
          rw [← h1, ← dataW_app, List.take_append_drop]
        have hll := layW_len (sz := sz) (X := X') (L := L') (b := b'.take M) hL' (by omega)
        repeat (first | (simp (maxSteps := 1000000) only [↓reduceIte, go_sem, hJ, e4, e5, e6, e7, g0, g1, g4, g5, e1, e2]) | (simp (maxSteps := 1000000) (disch := first | omega | assumption) only [BB, hJ, e4, e5, e6, e7, g0, g1, g4, g5, e1, e2]) | with_reducible refine Gst.now ?_ | with_reducible refine vawp_draw mixed (by kernel_rfl) ?_ | with_reducible first | refine lwV_out ?_ | refine lwV_out0 ?_ | refine lkC_out ?_ | refine And.intro (by omega) ?_ | fail)
        refine call_ok (lay_v m1 m2 m3 ?_ ?_ ?_ hMl.symm hL' hsz (by omega) (List.length_pos_iff.1 (by omega)) (by omega) ?_)
        · rw [hset_none, hset_none]; exact ⟨by omega, by omega, hj⟩
        · rw [hset_none, hset_none]; exact ⟨by omega, by omega, m8⟩
        · rw [hset_none, hset_none]; exact ⟨by omega, by omega, m9⟩
        intro r2 k2 l1 l2 l3 hr2 hk2
        rw [hset_none, hset_none] at hr2 hk2
        have hdl : (b'.drop M).length = b'.length - M := List.length_drop ..
        repeat (first | (simp (maxSteps := 1000000) only [↓reduceIte, go_sem, e4, e5, e6, e7, g0, g1, g4, g5, e1, e2]) | (simp (maxSteps := 1000000) (disch := first | omega | assumption) only [BB, e4, e5, e6, e7, g0, g1, g4, g5, e1, e2]) | with_reducible refine Gst.now ?_ | with_reducible refine vawp_draw mixed (by kernel_rfl) ?_ | with_reducible first | refine lwV_out ?_ | refine lwV_out0 ?_ | refine lkC_out ?_ | refine And.intro (by omega) ?_ | fail)
        refine ⟨b'.length - M, by omega, b'.drop M, (layW sz X' L' (b'.take M)).1, (layW sz X' L' (b'.take M)).2, r2, k2, hdl.symm, ?_, hd.trans hch, hll.1, by omega, ⟨l1, l2, l3⟩, ⟨by omega, by omega, by omega, by omega, hr2.2.2, hk2.2.2⟩, rfl⟩
        rw [hdl, List.take_of_length_le (i := b'.length - M) (by omega)]
    · have hb0 : b' = [] := List.eq_nil_of_length_eq_zero (by omega)
      subst hb0
      have e8 := fun B => hdel_hset (b := B) q4.2
      repeat (first | (simp (maxSteps := 1000000) only [↓reduceIte, go_sem, e4, e5, e6, e7, g0, g1, g4, g5, e8]) | (simp (maxSteps := 1000000) (disch := first | omega | assumption) only [BB, e4, e5, e6, e7, g0, g1, g4, g5, e8]) | with_reducible refine Gst.now ?_ | with_reducible refine vawp_draw mixed (by kernel_rfl) ?_ | with_reducible first | refine lwV_out ?_ | refine lwV_out0 ?_ | refine lkC_out ?_ | refine And.intro (by omega) ?_ | fail)
      refine hq _ _ ?_
      repeat (first | (simp (maxSteps := 1000000) only [↓reduceIte, go_sem, e4, e5, e6, e7, g0, g1, g4, g5, e8]) | (simp (maxSteps := 1000000) (disch := first | omega | assumption) only [BB, e4, e5, e6, e7, g0, g1, g4, g5, e8]) | with_reducible refine Gst.now ?_ | with_reducible refine vawp_draw mixed (by kernel_rfl) ?_ | with_reducible first | refine lwV_out ?_ | refine lwV_out0 ?_ | refine lkC_out ?_ | refine And.intro (by omega) ?_ | fail)
      refine .drop p (.drop q ?_)
      rw [show dataW sz (X', L') [] = (X', L') from rfl] at hd
      rw [hd] at hK
      repeat (first | (simp (maxSteps := 1000000) only [↓reduceIte, go_sem, e4, e5, e6, e7, g0, g1, g4, g5, e8]) | (simp (maxSteps := 1000000) (disch := first | omega | assumption) only [BB, e4, e5, e6, e7, g0, g1, g4, g5, e8]) | with_reducible refine Gst.now ?_ | with_reducible refine vawp_draw mixed (by kernel_rfl) ?_ | with_reducible first | refine lwV_out ?_ | refine lwV_out0 ?_ | refine lkC_out ?_ | refine And.intro (by omega) ?_ | fail)
      refine .now (hcast (hK r' k' m1 m2 m3 m8 m9) (congrArg (fun z => WrS z j r' k' sz X' L') ?_))
      funext i
      simp only [hset, hdel]
      repeat' split
      all_goals first | rfl | (subst_vars; simp_all; done)
end
end Go.Proofs.Ytbmikefignmkdaa.VSpan2
