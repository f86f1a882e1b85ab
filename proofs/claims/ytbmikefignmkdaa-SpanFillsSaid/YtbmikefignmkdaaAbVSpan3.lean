/- package span, over the machine of values: rows, new writers, copies. -/
import Derived.Test.YtbmikefignmkdaaProg
import Derived.Test.YtbmikefignmkdaaAbV16
import Derived.Test.YtbmikefignmkdaaAbFacts
import Derived.Test.YtbmikefignmkdaaAbVRow1
import Derived.Test.YtbmikefignmkdaaAbLittleM
import Derived.Test.YtbmikefignmkdaaAbVPut
import Derived.Test.YtbmikefignmkdaaAbVSame
import Derived.Test.YtbmikefignmkdaaAbVJoin
import Derived.Test.YtbmikefignmkdaaAbVSpan
import Derived.Test.YtbmikefignmkdaaAbVSpan2
import Derived.KernelRfl
import Derived.Laws.BitsAllLaws
set_option linter.unusedVariables false
set_option linter.unusedSimpArgs false
set_option maxRecDepth 100000
set_option maxHeartbeats 4000000
namespace Go.Proofs.Ytbmikefignmkdaa.VSpan3
open Go.RowKit Go.Proofs.AbM Go.Proofs.Ytbmikefignmkdaa.Facts Go.Proofs.Ytbmikefignmkdaa.VRow1 Go.Proofs.Ytbmikefignmkdaa.LittleM Go.Proofs.Ytbmikefignmkdaa.VPut Go.Proofs.Ytbmikefignmkdaa.VSame Go.Proofs.Ytbmikefignmkdaa.VJoin Go.Proofs.Ytbmikefignmkdaa.VSpan Go.Proofs.Ytbmikefignmkdaa.VSpan2
attribute [local go_sem] vawp_skip_eq vawp_seq_eq vawp_region_eq vawp_cond_g vawp_block_eq vawp_exit_eq vawp_ret_eq thenV_ret thenV_exit thenV_normal inBlockV_normal inBlockV_ret inBlockV_exit resKV_nil resKV_tmp resKV_cell oneV_one oneV_nil oneV_more initV_nil initV_cons updV_at evv_tmp evv_func evv_global evv_int evv_bool evv_str evv_snil evv_pnil evv_agg ofV3_int ofV3_bool ofV3_str ofV3_snil ofV3_pnil vok_tmp vok_func vok_global vok_int vok_bool vok_str vok_snil vok_pnil vok_agg cloV3_int cloV3_bool cloV3_str cloV3_snil cloV3_pnil voks_nil voks_cons scV_int scV_bool scV_str isBlV_b isBV_t isBV_f lwV_none lwV_sc lwV_agg lwV_tup lwV_isl lwV_own lwV_op lwV_ip lwV_fn lwV_junk vops_nil vops_n vops_s gsN_eq vop dstOk_some dstOk_none pkV_b blkV_set eRead_f eRead_t vLoad_op vLoad_ip vStore_op cells_sc cells_isl cells_own cells_op cells_ip cells_fn cells_agg parts_sc parts_isl parts_own parts_op parts_ip parts_fn parts_agg one_sc one_isl one_own one_op one_ip one_fn vField_op vField_ip ePart_f ePart_t vFieldV_agg vIx_isl vIx_own vIx_op vIx_ip vIxV_agg vIxV_str vLen_str vLen_isl vLen_own vLen_agg bndE_none bndE_int vSlice_isl vSlice_str vBin_add vBin_sub vBin_mul vBin_quo vBin_rem vBin_and vBin_or vBin_xor vBin_andNot vBin_eql vBin_neq vBin_lss vBin_leq vBin_gtr vBin_geq vBin_shr_i8 vBin_shl_i8 vBin_shr_i16 vBin_shl_i16 vBin_shr_i32 vBin_shl_i32 vBin_shr_i64 vBin_shl_i64 vBin_shr_u8 vBin_shl_u8 vBin_shr_u16 vBin_shl_u16 vBin_shr_u32 vBin_shl_u32 vBin_shr_u64 vBin_shl_u64 vBin_seq vBin_sne vBin_isln vBin_opn vBin_ipn ex_sc ex_sc2 ex_sc3 ex_tup calleeV wSc_pb wSc_pi wSc_not wSc_neg wSc_com wSc_min2 wSc_max2 vfold_nil vfold_one vfold_cons vfill_nil vfill_e eFill_s vBuild vBox vAlloc setV_map setV_zs setV_zn setV_s hset_hset eConv_ss vConv_e iv_eq ivI_eq ex_get ex_getI set_iv set_ivI okNil isNilV isSlV hdel_at hset_at List.map_toArray List.map_cons List.map_nil List.nil_append List.cons_append List.append_nil List.toList_toArray List.getElem?_toArray List.getElem_toArray List.getElem_cons_zero List.getElem_cons_succ List.getElem?_cons_zero List.getElem?_cons_succ List.set_cons_zero List.set_cons_succ List.set_set List.length_cons List.length_nil List.length_set List.length_map List.all_cons List.all_nil List.drop_zero List.drop_succ_cons List.take_succ_cons List.take_zero List.flatMap_cons Bool.and_eq_true true_and and_true if_true if_false ite_true ite_false forall_eq' forall_eq exists_eq_left exists_eq_left' exists_eq' Value.bool.injEq Value.int.injEq Value.string.injEq Value.pointer.injEq Option.some.injEq AV.sc.injEq AV.op.injEq AV.ip.injEq AV.own.injEq AV.agg.injEq VB.cells.injEq VB.iter.injEq Prod.mk.injEq decide_eq_true_eq decide_eq_false_iff_not Nat.reduceEqDiff Nat.reduceLT Nat.reduceLeDiff Nat.reduceSub Nat.reduceBEq reduceIte Int.reduceLE Int.reduceLT Int.reduceToNat Int.reduceNeg Int.reduceEq Int.reduceNe Int.cast_ofNat_Int Nat.reduceMul Nat.reduceAdd Nat.reduceDiv Nat.reduceMod Nat.reducePow Int.reduceSub Int.reduceAdd Int.reduceMul Int.reducePow Option.isSome_some Option.isSome_none Option.bind_some Option.map_some Option.map_none Option.toList_some Option.toList_none true_or or_true or_false false_or Bool.not_true Bool.not_false Bool.not_eq_true Bool.false_eq_true Bool.not_not false_implies true_implies implies_true Nat.zero_add Nat.add_zero Nat.mul_one Bool.not_eq_true' Bool.true_eq_false Bool.and_true Bool.true_and Bool.and_false Bool.false_and Bool.or_true Bool.true_or Bool.or_false Bool.false_or Option.isNone_some Option.isNone_none Int.reduceBEq Int.reduceBNe beq_self_eq_true bne_self_eq_false beq_iff_eq not_false_eq_true not_true_eq_false Decidable.not_not bne_iff_ne ne_eq Int.toNat_natCast gt_lt ge_le c_add c_mul c_sub c_addn c_nadd c_muln c_nmul c_subn c_nsub c_divn c_modn c_div c_mod c_tdivn c_tmodn c_tdiv c_tmod c_pow c_nn c_beq c_beqn c_bne c_bnen wr64 wr32 wru64 wru32 wru16 wru8 c_if c_if1 c_if2 c_lt c_le c_eq c_ltn c_len c_nlt c_nle c_eqn m_drop m_take Nat.add_sub_cancel_left Nat.add_sub_cancel Int.reduceTMod Int.reduceTDiv Int.reduceMod Int.reduceDiv isC_some hset_ne hdel_ne hdel_hset hdel_hset_ne blkV_nset blkV_ndel hset_hdel gV_t gV_f isGdV_b isGdV_u isBV_u isGdV_g isBV_gt isBV_gf decide_true decide_false Bool.or_eq_false_iff eq_self Nat.lt_irrefl Int.lt_irrefl Nat.le_refl Int.le_refl
attribute [local go_sem high] vops_pk vops_mv vops_as vops_smv pk_and pk_or pk_gand pk_gor pk_orn pk_gorn
attribute [local go_sem] ag3 sz3 zc3 ik3 ag4 sz4 zc4 ag5 sz5 zc5 ik5 ag9 sz9 zc9 iq9 ag22 sz22 el22 zc22 is22 ag25 sz25 zc25 pt25 ag26 sz26 zc26 ik26 ag29 sz29 el29 zc29 is29 ag31 sz31 zc31 bo31 ag33 sz33 el33 zc33 is33 ag35 sz35 zc35 bo35 ag37 sz37 zc37 eqs37 nes37 bo37 ag51 sz51 el51 zc51 is51 ag59 sz59 zc59 ik59 ag61 sz61 zc61 bo61 ag67 sz67 zc67 of31_0 fd31_0 of31_1 fd31_1 of35_0 fd35_0 of35_1 fd35_1 of37_0 fd37_0 of37_1 fd37_1 of61_0 fd61_0 of61_1 fd61_1 eqb neb
section
variable {n : Nat} {h : VH} {K : AV → VH → Prop}
attribute [local go_sem] rowC rowA ex_row row_len row_take row_drop Nat.sub_zero Nat.zero_le
theorem clone_o {l : Nat} {xs : List Nat} (hl : l = xs.length) (hb : xs.length ≤ 140737488355328) (hK : ∀ j, h j = none → FrK K (.own j 0 l) (hset h j (.cells 5 false (xs.map (iv .u8))))) : VC Try.prog GL (n + 1) 29 [.isl false l (xs.map (iv .u8))] h K := by
  refine VC_go Try.func29 rfl (by decide) Try.ntmps29 Try.results29 rfl fun Q hq hn => ?_
  subst hl
  repeat (first | (simp (maxSteps := 1000000) only [↓reduceIte, go_sem]) | (simp (maxSteps := 1000000) (disch := first | omega | assumption) only [BB]) | with_reducible refine Gst.now ?_ | with_reducible refine vawp_draw mixed (by kernel_rfl) ?_ | with_reducible first | refine lwV_out ?_ | refine lwV_out0 ?_ | refine lkC_out ?_ | refine And.intro (by omega) ?_ | fail)
  refine vBuildS_o bs33 ?_ ?_ ?_ ?_ ?_
  rfl
  rfl
  rfl
  rfl
  intro j hj
  repeat (first | (simp (maxSteps := 1000000) only [↓reduceIte, go_sem]) | (simp (maxSteps := 1000000) (disch := first | omega | assumption) only [BB]) | with_reducible refine Gst.now ?_ | with_reducible refine vawp_draw mixed (by kernel_rfl) ?_ | with_reducible first | refine lwV_out ?_ | refine lwV_out0 ?_ | refine lkC_out ?_ | refine And.intro (by omega) ?_ | fail)
  apply vApp_own_isl ap33 (by simp only [go_sem])
  case hv => first | (simp []; done) | (simp []; omega) | rfl | assumption
  case hj => repeat (first | exact hset_at _ _ _ | assumption | refine (hset_ne _ _ (by first | omega | assumption)).trans ?_ | refine (hdel_ne _ (by first | omega | assumption)).trans ?_ | fail)
  case hl => first | (simp []; done) | (simp []; omega) | rfl | assumption
  case h1 => first | omega | (simp []; omega) | (simp []; done)
  case h2 => first | omega | (simp []; omega) | (simp []; done)
  intro j' hj'
  try simp (disch := first | omega | assumption) only [go_sem, hset_none, hdel_none] at hj'
  try simp (disch := first | omega | assumption) only [hset_none, hdel_none] at hj'
  repeat (first | (simp (maxSteps := 1000000) only [↓reduceIte, go_sem]) | (simp (maxSteps := 1000000) (disch := first | omega | assumption) only [BB]) | with_reducible refine Gst.now ?_ | with_reducible refine vawp_draw mixed (by kernel_rfl) ?_ | with_reducible first | refine lwV_out ?_ | refine lwV_out0 ?_ | refine lkC_out ?_ | refine And.intro (by omega) ?_ | fail)
  refine hq _ _ ?_
  repeat (first | (simp (maxSteps := 1000000) only [↓reduceIte, go_sem]) | (simp (maxSteps := 1000000) (disch := first | omega | assumption) only [BB]) | with_reducible refine Gst.now ?_ | with_reducible refine vawp_draw mixed (by kernel_rfl) ?_ | with_reducible first | refine lwV_out ?_ | refine lwV_out0 ?_ | refine lkC_out ?_ | refine And.intro (by omega) ?_ | fail)
  exact hK j' hj'
theorem clone_k {k l : Nat} {xs : List Nat} (hk : h k = some (.cells 5 false (xs.map (iv .u8)))) (hl : l = xs.length) (hb : xs.length ≤ 140737488355328) (hK : ∀ j, h j = none → FrK K (.own j 0 l) (hset h j (.cells 5 false (xs.map (iv .u8))))) : VC Try.prog GL (n + 1) 29 [.own k 0 l] h K := by
  refine VC_go Try.func29 rfl (by decide) Try.ntmps29 Try.results29 rfl fun Q hq hn => ?_
  subst hl
  repeat (first | (simp (maxSteps := 1000000) only [↓reduceIte, go_sem]) | (simp (maxSteps := 1000000) (disch := first | omega | assumption) only [BB]) | with_reducible refine Gst.now ?_ | with_reducible refine vawp_draw mixed (by kernel_rfl) ?_ | with_reducible first | refine lwV_out ?_ | refine lwV_out0 ?_ | refine lkC_out ?_ | refine And.intro (by omega) ?_ | fail)
  refine vBin_own us33 hk ?_
  repeat (first | (simp (maxSteps := 1000000) only [↓reduceIte, go_sem]) | (simp (maxSteps := 1000000) (disch := first | omega | assumption) only [BB]) | with_reducible refine Gst.now ?_ | with_reducible refine vawp_draw mixed (by kernel_rfl) ?_ | with_reducible first | refine lwV_out ?_ | refine lwV_out0 ?_ | refine lkC_out ?_ | refine And.intro (by omega) ?_ | fail)
  refine vBuildS_o bs33 ?_ ?_ ?_ ?_ ?_
  rfl
  rfl
  rfl
  rfl
  intro j hj
  repeat (first | (simp (maxSteps := 1000000) only [↓reduceIte, go_sem]) | (simp (maxSteps := 1000000) (disch := first | omega | assumption) only [BB]) | with_reducible refine Gst.now ?_ | with_reducible refine vawp_draw mixed (by kernel_rfl) ?_ | with_reducible first | refine lwV_out ?_ | refine lwV_out0 ?_ | refine lkC_out ?_ | refine And.intro (by omega) ?_ | fail)
  have hkj : k ≠ j := by rintro rfl; rw [hk] at hj; cases hj
  refine vApp_own (n := xs.length) (vs := xs.map (iv .u8)) ap33 (hset_at _ _ _) rfl ⟨⟨_, us33⟩, rfl, 5, false, xs.map (iv .u8), by rw [hset_ne _ _ hkj]; exact hk, by simp, by rw [List.drop_zero, Nat.mul_one, List.take_of_length_le (by simp)]⟩ (by omega) (by omega) ?_
  intro j' hj'
  try simp (disch := first | omega | assumption) only [go_sem, hset_none, hdel_none] at hj'
  try simp (disch := first | omega | assumption) only [hset_none, hdel_none] at hj'
  repeat (first | (simp (maxSteps := 1000000) only [↓reduceIte, go_sem]) | (simp (maxSteps := 1000000) (disch := first | omega | assumption) only [BB]) | with_reducible refine Gst.now ?_ | with_reducible refine vawp_draw mixed (by kernel_rfl) ?_ | with_reducible first | refine lwV_out ?_ | refine lwV_out0 ?_ | refine lkC_out ?_ | refine And.intro (by omega) ?_ | fail)
  refine hq _ _ ?_
  repeat (first | (simp (maxSteps := 1000000) only [↓reduceIte, go_sem]) | (simp (maxSteps := 1000000) (disch := first | omega | assumption) only [BB]) | with_reducible refine Gst.now ?_ | with_reducible refine vawp_draw mixed (by kernel_rfl) ?_ | with_reducible first | refine lwV_out ?_ | refine lwV_out0 ?_ | refine lkC_out ?_ | refine And.intro (by omega) ?_ | fail)
  exact hK j' hj'
theorem new_v {sz : Int} (hK0 : ¬ (5 ≤ sz ∧ sz ≤ 16777216) → K (.tup [.sc (.pointer none), (.sc (.int .i64 (1)))]) h)
    (hK1 : 5 ≤ sz → sz ≤ 16777216 → ∀ j r k, j ≠ r → j ≠ k → r ≠ k → h j = none → h r = none → h k = none → K (.tup [.op j 0, (.sc (.int .i64 (0)))]) (WrS h j r k sz.toNat [] [80, 75, 7, 8])) : VC Try.prog GL (n + 3) 9 [(.sc (.int .i64 (sz)))] h K := by
  refine VC_go Try.func9 rfl (by decide) Try.ntmps9 Try.results9 rfl fun Q hq hn => ?_
  by_cases h1 : sz < 5
  · have e1 := decide_eq_true h1
    repeat (first | (simp (maxSteps := 1000000) only [↓reduceIte, go_sem, e1]) | (simp (maxSteps := 1000000) (disch := first | omega | assumption) only [BB, e1]) | with_reducible refine Gst.now ?_ | with_reducible refine vawp_draw mixed (by kernel_rfl) ?_ | with_reducible first | refine lwV_out ?_ | refine lwV_out0 ?_ | refine lkC_out ?_ | refine And.intro (by omega) ?_ | fail)
    refine hq _ _ ?_
    repeat (first | (simp (maxSteps := 1000000) only [↓reduceIte, go_sem, e1]) | (simp (maxSteps := 1000000) (disch := first | omega | assumption) only [BB, e1]) | with_reducible refine Gst.now ?_ | with_reducible refine vawp_draw mixed (by kernel_rfl) ?_ | with_reducible first | refine lwV_out ?_ | refine lwV_out0 ?_ | refine lkC_out ?_ | refine And.intro (by omega) ?_ | fail)
    exact .now (hK0 (by omega))
  have e1 := decide_eq_false h1
  by_cases h2 : 16777216 < sz
  · have e2 := decide_eq_true h2
    repeat (first | (simp (maxSteps := 1000000) only [↓reduceIte, go_sem, e1, e2]) | (simp (maxSteps := 1000000) (disch := first | omega | assumption) only [BB, e1, e2]) | with_reducible refine Gst.now ?_ | with_reducible refine vawp_draw mixed (by kernel_rfl) ?_ | with_reducible first | refine lwV_out ?_ | refine lwV_out0 ?_ | refine lkC_out ?_ | refine And.intro (by omega) ?_ | fail)
    refine hq _ _ ?_
    repeat (first | (simp (maxSteps := 1000000) only [↓reduceIte, go_sem, e1, e2]) | (simp (maxSteps := 1000000) (disch := first | omega | assumption) only [BB, e1, e2]) | with_reducible refine Gst.now ?_ | with_reducible refine vawp_draw mixed (by kernel_rfl) ?_ | with_reducible first | refine lwV_out ?_ | refine lwV_out0 ?_ | refine lkC_out ?_ | refine And.intro (by omega) ?_ | fail)
    exact .now (hK0 (by omega))
  have e2 := decide_eq_false h2
  repeat (first | (simp (maxSteps := 1000000) only [↓reduceIte, go_sem, e1, e2]) | (simp (maxSteps := 1000000) (disch := first | omega | assumption) only [BB, e1, e2]) | with_reducible refine Gst.now ?_ | with_reducible refine vawp_draw mixed (by kernel_rfl) ?_ | with_reducible first | refine lwV_out ?_ | refine lwV_out0 ?_ | refine lkC_out ?_ | refine And.intro (by omega) ?_ | fail)
  refine call_ok (lput_v (x := 134695760) (s := 4) (by decide) fun k nl hk hnl => .now ?_)
  have hnl : nl = false := by cases nl with
    | true => exact absurd (hnl rfl) (by decide)
    | false => rfl
  subst hnl
  have e3 : hs8 4 = 4 := rfl
  have e4 : (leB 4 134695760).map (iv .u8) = [80, 75, 7, 8].map (iv .u8) := rfl
  rw [e3, e4]
  repeat (first | (simp (maxSteps := 1000000) only [↓reduceIte, go_sem, e1, e2, e3, e4]) | (simp (maxSteps := 1000000) (disch := first | omega | assumption) only [BB, e1, e2, e3, e4]) | with_reducible refine Gst.now ?_ | with_reducible refine vawp_draw mixed (by kernel_rfl) ?_ | with_reducible first | refine lwV_out ?_ | refine lwV_out0 ?_ | refine lkC_out ?_ | refine And.intro (by omega) ?_ | fail)
  refine vBuildS_o bs29 ?_ ?_ ?_ ?_ ?_
  rfl
  rfl
  rfl
  rfl
  intro r hr
  try simp (disch := first | omega | assumption) only [go_sem, hset_none, hdel_none] at hr
  try simp (disch := first | omega | assumption) only [hset_none, hdel_none] at hr
  repeat (first | (simp (maxSteps := 1000000) only [↓reduceIte, go_sem, e1, e2, e3, e4]) | (simp (maxSteps := 1000000) (disch := first | omega | assumption) only [BB, e1, e2, e3, e4]) | with_reducible refine Gst.now ?_ | with_reducible refine vawp_draw mixed (by kernel_rfl) ?_ | with_reducible first | refine lwV_out ?_ | refine lwV_out0 ?_ | refine lkC_out ?_ | refine And.intro (by omega) ?_ | fail)
  intro j hj
  try simp (disch := first | omega | assumption) only [go_sem, hset_none, hdel_none] at hj
  try simp (disch := first | omega | assumption) only [hset_none, hdel_none] at hj
  repeat (first | (simp (maxSteps := 1000000) only [↓reduceIte, go_sem, e1, e2, e3, e4]) | (simp (maxSteps := 1000000) (disch := first | omega | assumption) only [BB, e1, e2, e3, e4]) | with_reducible refine Gst.now ?_ | with_reducible refine vawp_draw mixed (by kernel_rfl) ?_ | with_reducible first | refine lwV_out ?_ | refine lwV_out0 ?_ | refine lkC_out ?_ | refine And.intro (by omega) ?_ | fail)
  refine hq _ _ ?_
  repeat (first | (simp (maxSteps := 1000000) only [↓reduceIte, go_sem, e1, e2, e3, e4]) | (simp (maxSteps := 1000000) (disch := first | omega | assumption) only [BB, e1, e2, e3, e4]) | with_reducible refine Gst.now ?_ | with_reducible refine vawp_draw mixed (by kernel_rfl) ?_ | with_reducible first | refine lwV_out ?_ | refine lwV_out0 ?_ | refine lkC_out ?_ | refine And.intro (by omega) ?_ | fail)
  refine .now (kcast (hK1 (by omega) (by omega) j r k (by omega) (by omega) (by omega) hj.2.2 hr.2 hk) ?_ ?_)
  · rfl
  · unfold WrS
    rw [Int.toNat_of_nonneg (by omega)]
    rfl
structure OkRow (r : RowV) : Prop where
  nl : r.nl = false
  len : r.bs.length ≤ 16777216
/-- All volumes, the last one of one's own. -/
def RowO (h : VH) (r k : Nat) (X : List RowV) (L : List Nat) : VH := hset (hset h k (.cells 5 false (L.map (iv .u8)))) r (.cells 33 false (X.flatMap rowC ++ [.own k 0 L.length]))
theorem getq_X {X : List RowV} {v : AV} {i : Nat} (hi : i < X.length) : (X.flatMap rowC ++ [v])[i]? = some (rowA (X.getD i default)) := by
  rw [List.getElem?_append_left (by rw [row_len]; exact hi), row_get X i hi]
theorem rowO_v {j r k sz : Nat} {X : List RowV} {L : List Nat} (hJ : blkV h j = some (61, [(.sc (.int .i64 ((sz : Nat)))), .own r 0 (X.length + 1)])) (hR : blkV h r = some (33, X.flatMap rowC ++ [.own k 0 L.length])) (hk : h k = some (.cells 5 false (L.map (iv .u8)))) (hX : X.length ≤ 1000000000) (hO : ∀ x ∈ X, OkRow x) (hL : L.length ≤ 16777216)
    (hK : ∀ r' k', r' ≠ k' → h r' = none → h k' = none → FrK K (.own r' 0 (X.length + 1)) (RowO h r' k' X L)) : VC Try.prog GL (n + 2) 16 [.op j 0] h K := by
  refine VC_go Try.func16 rfl (by decide) Try.ntmps16 Try.results16 rfl fun Q hq hn => ?_
  have e1 := blk_isC hR
  repeat (first | (simp (maxSteps := 1000000) only [↓reduceIte, go_sem, e1]) | (simp (maxSteps := 1000000) (disch := first | omega | assumption) only [BB, e1]) | with_reducible refine vawp_draw mixed (by kernel_rfl) ?_ | with_reducible first | refine lwV_out ?_ | refine lwV_out0 ?_ | refine lkC_out ?_ | refine And.intro (by omega) ?_ | fail)
  refine .now ?_
  repeat (first | (simp (maxSteps := 1000000) only [↓reduceIte, go_sem, e1]) | (simp (maxSteps := 1000000) (disch := first | omega | assumption) only [BB, e1]) | with_reducible refine vawp_draw mixed (by kernel_rfl) ?_ | with_reducible first | refine lwV_out ?_ | refine lwV_out0 ?_ | refine lkC_out ?_ | refine And.intro (by omega) ?_ | fail)
  refine .mat 3 33 ?_ ?_
  · repeat (first | (simp (maxSteps := 1000000) only [↓reduceIte, go_sem, e1]) | (simp (maxSteps := 1000000) (disch := first | omega | assumption) only [BB, e1]) | with_reducible refine Gst.now ?_ | with_reducible refine vawp_draw mixed (by kernel_rfl) ?_ | with_reducible first | refine lwV_out ?_ | refine lwV_out0 ?_ | refine lkC_out ?_ | refine And.intro (by omega) ?_ | fail)
  · intro q0 hq0
    have e2 : blkV (hset h q0 (.cells 33 true [])) j = _ := (blkV_nset (new_ne hJ hq0)).trans hJ
    have e3 : isC (hset h q0 (.cells 33 true []) r) = true := by rw [hset_ne _ _ (new_ne hR hq0)]; exact e1
    repeat (first | (simp (maxSteps := 1000000) only [↓reduceIte, go_sem, e1, e2, e3]) | (simp (maxSteps := 1000000) (disch := first | omega | assumption) only [BB, e1, e2, e3]) | with_reducible refine Gst.now ?_ | with_reducible refine vawp_draw mixed (by kernel_rfl) ?_ | with_reducible first | refine lwV_out ?_ | refine lwV_out0 ?_ | refine lkC_out ?_ | refine And.intro (by omega) ?_ | fail)
    refine vawp_loop (k := X.length + 1) (fun d ρ h1 => ∃ i r', d + i = X.length + 1 ∧ ρ 9 = .own r 0 (X.length + 1) ∧ ρ 10 = (.sc (.int .i64 ((X.length + 1 : Nat)))) ∧ ρ 11 = (.sc (.int .i64 ((i : Nat)))) ∧ ρ 3 = .own r' 0 i ∧ h r' = none ∧ ((i ≤ X.length ∧ ∃ nl, (nl = true → i = 0) ∧ h1 = hset h r' (.cells 33 nl ((X.take i).flatMap rowC))) ∨ (i = X.length + 1 ∧ ∃ k', r' ≠ k' ∧ h k' = none ∧ h1 = RowO h r' k' X L))) ?_ ?_
    · refine ⟨0, q0, by omega, ?_⟩
      repeat (first | (simp (maxSteps := 1000000) only [↓reduceIte, go_sem, e1, e2, e3]) | (simp (maxSteps := 1000000) (disch := first | omega | assumption) only [BB, e1, e2, e3]) | with_reducible refine Gst.now ?_ | with_reducible refine vawp_draw mixed (by kernel_rfl) ?_ | with_reducible first | refine lwV_out ?_ | refine lwV_out0 ?_ | refine lkC_out ?_ | refine And.intro (by omega) ?_ | fail)
      exact .inl ⟨true, rfl⟩
    · rintro d ρ h1 ⟨i, r', hd, g9, g10, g11, g3, hr', hh⟩
      rcases hh with ⟨hi, nl, hnl, rfl⟩ | ⟨rfl, k', hne, hk', rfl⟩
      · have hjr : j ≠ r' := new_ne hJ hr'
        have hrr : r ≠ r' := new_ne hR hr'
        have hkr : k ≠ r' := by rintro rfl; rw [hk] at hr'; cases hr'
        have hlt : ((X.take i).flatMap rowC).length = i := by rw [row_len, List.length_take]; omega
        have e4 : blkV (hset h r' (.cells 33 nl ((X.take i).flatMap rowC))) r = _ := (blkV_nset hrr).trans hR
        have e5 : isC (hset h r' (.cells 33 nl ((X.take i).flatMap rowC)) r) = true := by rw [hset_ne _ _ hrr]; exact e1
        have e6 : i < X.length + 1 := by omega
        by_cases hix : i < X.length
        · have e7 := getq_X (v := .own k 0 L.length) hix
          have hok := hO _ (getD_mem hix)
          have htk : (X.take (i + 1)).flatMap rowC = (X.take i).flatMap rowC ++ rowC (X.getD i default) := by rw [take_snocD hix, List.flatMap_append]; simp
          generalize X.getD i default = x at *
          obtain ⟨xn, xs⟩ := x
          obtain rfl : xn = false := hok.nl
          have hxl := hok.len
          simp only at hxl
          repeat (first | (simp (maxSteps := 1000000) only [↓reduceIte, go_sem, e1, e2, e3, g9, g10, g11, g3, e4, e5, e6, e7]) | (simp (maxSteps := 1000000) (disch := first | omega | assumption) only [BB, e1, e2, e3, g9, g10, g11, g3, e4, e5, e6, e7]) | with_reducible refine Gst.now ?_ | with_reducible refine vawp_draw mixed (by kernel_rfl) ?_ | with_reducible first | refine lwV_out ?_ | refine lwV_out0 ?_ | refine lkC_out ?_ | refine And.intro (by omega) ?_ | fail)
          refine call_ok (clone_o rfl (by omega) fun k' hk' => .iso hk' ?_)
          repeat (first | (simp (maxSteps := 1000000) only [↓reduceIte, go_sem, e1, e2, e3, g9, g10, g11, g3, e4, e5, e6, e7]) | (simp (maxSteps := 1000000) (disch := first | omega | assumption) only [BB, e1, e2, e3, g9, g10, g11, g3, e4, e5, e6, e7]) | with_reducible refine Gst.now ?_ | with_reducible refine vawp_draw mixed (by kernel_rfl) ?_ | with_reducible first | refine lwV_out ?_ | refine lwV_out0 ?_ | refine lkC_out ?_ | refine And.intro (by omega) ?_ | fail)
          refine vBuildS_i bs29 ?_ ?_ ?_ ?_ ?_
          rfl
          rfl
          rfl
          rfl
          repeat (first | (simp (maxSteps := 1000000) only [↓reduceIte, go_sem]) | (simp (maxSteps := 1000000) (disch := first | omega | assumption) only [BB]) | with_reducible refine Gst.now ?_ | with_reducible refine vawp_draw mixed (by kernel_rfl) ?_ | with_reducible first | refine lwV_out ?_ | refine lwV_out0 ?_ | refine lkC_out ?_ | refine And.intro (by omega) ?_ | fail)
          apply vApp_own_isl ap29 (by simp only [go_sem])
          case hv => first | (simp [hlt]; done) | (simp [hlt]; omega) | rfl | assumption
          case hj => repeat (first | exact hset_at _ _ _ | assumption | refine (hset_ne _ _ (by first | omega | assumption)).trans ?_ | refine (hdel_ne _ (by first | omega | assumption)).trans ?_ | fail)
          case hl => first | (simp [hlt]; done) | (simp [hlt]; omega) | rfl | assumption
          case h1 => first | omega | (simp [hlt]; omega) | (simp [hlt]; done)
          case h2 => first | omega | (simp [hlt]; omega) | (simp [hlt]; done)
          intro r2 hr2
          try simp (disch := first | omega | assumption) only [go_sem, hset_none, hdel_none] at hr2
          try simp (disch := first | omega | assumption) only [hset_none, hdel_none] at hr2
          repeat (first | (simp (maxSteps := 1000000) only [↓reduceIte, go_sem, e1, e2, e3, g9, g10, g11, g3, e4, e5, e6, e7]) | (simp (maxSteps := 1000000) (disch := first | omega | assumption) only [BB, e1, e2, e3, g9, g10, g11, g3, e4, e5, e6, e7]) | with_reducible refine Gst.now ?_ | with_reducible refine vawp_draw mixed (by kernel_rfl) ?_ | with_reducible first | refine lwV_out ?_ | refine lwV_out0 ?_ | refine lkC_out ?_ | refine And.intro (by omega) ?_ | fail)
          refine ⟨d - 1, by omega, i + 1, r2, by omega, rfl, ⟨rfl, rfl⟩, hr2, .inl ⟨by omega, false, (fun hh => nomatch hh), ?_⟩⟩
          rw [htk]; rfl
        · obtain rfl : i = X.length := by omega
          have e7 := getq_last (v := .own k 0 L.length) (row_len X)
          rw [List.take_length] at *
          have hk2 : hset h r' (.cells 33 nl (X.flatMap rowC)) k = _ := (hset_ne _ _ hkr).trans hk
          repeat (first | (simp (maxSteps := 1000000) only [↓reduceIte, go_sem, e1, e2, e3, g9, g10, g11, g3, e4, e5, e6, e7]) | (simp (maxSteps := 1000000) (disch := first | omega | assumption) only [BB, e1, e2, e3, g9, g10, g11, g3, e4, e5, e6, e7]) | with_reducible refine Gst.now ?_ | with_reducible refine vawp_draw mixed (by kernel_rfl) ?_ | with_reducible first | refine lwV_out ?_ | refine lwV_out0 ?_ | refine lkC_out ?_ | refine And.intro (by omega) ?_ | fail)
          refine call_ok (clone_k hk2 rfl (by omega) fun k' hk' => .now ?_)
          try simp (disch := first | omega | assumption) only [go_sem, hset_none, hdel_none] at hk'
          try simp (disch := first | omega | assumption) only [hset_none, hdel_none] at hk'
          repeat (first | (simp (maxSteps := 1000000) only [↓reduceIte, go_sem, e1, e2, e3, g9, g10, g11, g3, e4, e5, e6, e7]) | (simp (maxSteps := 1000000) (disch := first | omega | assumption) only [BB, e1, e2, e3, g9, g10, g11, g3, e4, e5, e6, e7]) | with_reducible refine Gst.now ?_ | with_reducible refine vawp_draw mixed (by kernel_rfl) ?_ | with_reducible first | refine lwV_out ?_ | refine lwV_out0 ?_ | refine lkC_out ?_ | refine And.intro (by omega) ?_ | fail)
          refine vBuildS_i bs29 ?_ ?_ ?_ ?_ ?_
          rfl
          rfl
          rfl
          rfl
          repeat (first | (simp (maxSteps := 1000000) only [↓reduceIte, go_sem]) | (simp (maxSteps := 1000000) (disch := first | omega | assumption) only [BB]) | with_reducible refine Gst.now ?_ | with_reducible refine vawp_draw mixed (by kernel_rfl) ?_ | with_reducible first | refine lwV_out ?_ | refine lwV_out0 ?_ | refine lkC_out ?_ | refine And.intro (by omega) ?_ | fail)
          apply vApp_own_isl ap29 (by simp only [go_sem])
          case hv => first | (simp [hlt]; done) | (simp [hlt]; omega) | rfl | assumption
          case hj => repeat (first | exact hset_at _ _ _ | assumption | refine (hset_ne _ _ (by first | omega | assumption)).trans ?_ | refine (hdel_ne _ (by first | omega | assumption)).trans ?_ | fail)
          case hl => first | (simp [hlt]; done) | (simp [hlt]; omega) | rfl | assumption
          case h1 => first | omega | (simp [hlt]; omega) | (simp [hlt]; done)
          case h2 => first | omega | (simp [hlt]; omega) | (simp [hlt]; done)
          intro r2 hr2
          try simp (disch := first | omega | assumption) only [go_sem, hset_none, hdel_none] at hr2
          try simp (disch := first | omega | assumption) only [hset_none, hdel_none] at hr2
          repeat (first | (simp (maxSteps := 1000000) only [↓reduceIte, go_sem, e1, e2, e3, g9, g10, g11, g3, e4, e5, e6, e7]) | (simp (maxSteps := 1000000) (disch := first | omega | assumption) only [BB, e1, e2, e3, g9, g10, g11, g3, e4, e5, e6, e7]) | with_reducible refine Gst.now ?_ | with_reducible refine vawp_draw mixed (by kernel_rfl) ?_ | with_reducible first | refine lwV_out ?_ | refine lwV_out0 ?_ | refine lkC_out ?_ | refine And.intro (by omega) ?_ | fail)
          refine ⟨d - 1, by omega, X.length + 1, r2, by omega, rfl, ⟨rfl, rfl⟩, hr2.2, .inr ⟨rfl, k', hr2.1, hk'.2, rfl⟩⟩
      · repeat (first | (simp (maxSteps := 1000000) only [↓reduceIte, go_sem, e1, e2, e3, g9, g10, g11, g3]) | (simp (maxSteps := 1000000) (disch := first | omega | assumption) only [BB, e1, e2, e3, g9, g10, g11, g3]) | with_reducible refine Gst.now ?_ | with_reducible refine vawp_draw mixed (by kernel_rfl) ?_ | with_reducible first | refine lwV_out ?_ | refine lwV_out0 ?_ | refine lkC_out ?_ | refine And.intro (by omega) ?_ | fail)
        refine hq _ _ ?_
        repeat (first | (simp (maxSteps := 1000000) only [↓reduceIte, go_sem, e1, e2, e3, g9, g10, g11, g3]) | (simp (maxSteps := 1000000) (disch := first | omega | assumption) only [BB, e1, e2, e3, g9, g10, g11, g3]) | with_reducible refine Gst.now ?_ | with_reducible refine vawp_draw mixed (by kernel_rfl) ?_ | with_reducible first | refine lwV_out ?_ | refine lwV_out0 ?_ | refine lkC_out ?_ | refine And.intro (by omega) ?_ | fail)
        exact hK r' k' hne hr' hk'
theorem rowI_v {j r k sz : Nat} {X : List RowV} {L : List Nat} (hJ : blkV h j = some (61, [(.sc (.int .i64 ((sz : Nat)))), .own r 0 (X.length + 1)])) (hR : blkV h r = some (33, X.flatMap rowC ++ [.own k 0 L.length])) (hk : h k = some (.cells 5 false (L.map (iv .u8)))) (hX : X.length ≤ 1000000000) (hO : ∀ x ∈ X, OkRow x) (hL : L.length ≤ 16777216)
    (hK : K (.isl false (X.length + 1) ((X ++ [(⟨false, L⟩ : RowV)]).flatMap rowC)) h) : VC Try.prog GL (n + 2) 16 [.op j 0] h K := by
  refine rowO_v hJ hR hk hX hO hL fun r' k' hne hr' hk' => ?_
  unfold RowO
  refine .frzc (pre := X.flatMap rowC) (post := []) k' r' (by rw [hset_ne _ _ (Ne.symm hne), hset_at]) (hset_at _ _ _) hne ?_
  have e : hset (hdel (hset (hset h k' (.cells 5 false (L.map (iv .u8)))) r' (.cells 33 false (X.flatMap rowC ++ [.own k' 0 L.length]))) k') r' (.cells 33 false (X.flatMap rowC ++ [.isl false L.length (L.map (iv .u8))])) = hset h r' (.cells 33 false ((X ++ [(⟨false, L⟩ : RowV)]).flatMap rowC)) := by
    rw [flat_snoc]
    funext i
    simp only [hset, hdel, rowA]
    repeat' split
    all_goals first | rfl | (subst_vars; simp_all; done)
  rw [e]
  exact .iso hr' hK
/-- .. of a writer of one's own. -/
theorem rowS_v {h0 : VH} {j r k sz : Nat} {X : List RowV} {L : List Nat} (n1 : j ≠ r) (n2 : j ≠ k) (n3 : r ≠ k) (hX : X.length ≤ 1000000000) (hO : ∀ x ∈ X, OkRow x) (hL : L.length ≤ 16777216)
    (hK : K (.isl false (X.length + 1) ((X ++ [(⟨false, L⟩ : RowV)]).flatMap rowC)) (WrS h0 j r k sz X L)) : VC Try.prog GL (n + 2) 16 [.op j 0] (WrS h0 j r k sz X L) K :=
  rowI_v (sz := sz) (WrS_L n1 n2 n3).j (blkV_iff.2 (WrS_r n1)) (WrS_k n2 n3) hX hO hL hK
theorem wclone_v {j r k sz : Nat} {X : List RowV} {L : List Nat} (hJ : blkV h j = some (61, [(.sc (.int .i64 ((sz : Nat)))), .own r 0 (X.length + 1)])) (hR : blkV h r = some (33, X.flatMap rowC ++ [.own k 0 L.length])) (hk : h k = some (.cells 5 false (L.map (iv .u8)))) (hX : X.length ≤ 1000000000) (hO : ∀ x ∈ X, OkRow x) (hL : L.length ≤ 16777216)
    (hK : ∀ j' r' k', j' ≠ r' → j' ≠ k' → r' ≠ k' → h j' = none → h r' = none → h k' = none → K (.op j' 0) (WrS h j' r' k' sz X L)) : VC Try.prog GL (n + 3) 23 [.op j 0] h K := by
  refine VC_go Try.func23 rfl (by decide) Try.ntmps23 Try.results23 rfl fun Q hq hn => ?_
  repeat (first | (simp (maxSteps := 1000000) only [↓reduceIte, go_sem]) | (simp (maxSteps := 1000000) (disch := first | omega | assumption) only [BB]) | with_reducible refine Gst.now ?_ | with_reducible first | refine lwV_out ?_ | refine lwV_out0 ?_ | refine lkC_out ?_ | refine And.intro (by omega) ?_ | fail)
  refine vawp_split [0, 1, 2, 3, 4] [5, 6, 7, 8] (fun h' => blkV h' j = some (61, [(.sc (.int .i64 ((sz : Nat)))), .own r 0 (X.length + 1)])) mixed (by kernel_rfl) ?_ ?_
  · exact hJ
  simp only [pickO_cons, pickO_nil, List.getElem?_toArray, List.getElem?_cons_zero, List.getElem?_cons_succ]
  repeat (first | (apply vopsP_n; (case hd => rfl); (case hq => (intro h' K' hI' hk'; repeat (first | simp (maxSteps := 4000000) (disch := first | omega | assumption) only [↓reduceIte, go_sem, hI'] | with_reducible refine Gst.now ?_ | with_reducible refine vawp_draw mixed (by kernel_rfl) ?_ | with_reducible first | refine lwV_out ?_ | refine lwV_out0 ?_ | refine lkC_out ?_ | refine And.intro (by omega) ?_ | fail); exact hk'))) | fail)
  simp only [vopsP_nil]
  first | (apply vopsI_n; (case hd => rfl)) | apply vopsI_0
  repeat (first | (simp (maxSteps := 1000000) only [↓reduceIte, go_sem]) | (simp (maxSteps := 1000000) (disch := first | omega | assumption) only [BB]) | with_reducible refine Gst.now ?_ | with_reducible refine vawp_draw mixed (by kernel_rfl) ?_ | with_reducible first | refine lwV_out ?_ | refine lwV_out0 ?_ | refine lkC_out ?_ | refine And.intro (by omega) ?_ | fail)
  refine call_ok (rowO_v hJ hR hk hX hO hL fun r' k' hne hr' hk' => .now ?_)
  have e0 : blkV (RowO h r' k' X L) j = some (61, [(.sc (.int .i64 ((sz : Nat)))), .own r 0 (X.length + 1)]) := by
    unfold RowO
    rw [blkV_nset (new_ne hJ hr'), blkV_nset (new_ne hJ hk')]; exact hJ
  refine ⟨e0, ?_⟩
  first | (apply vopsI_n; (case hd => rfl)) | apply vopsI_0
  repeat (first | (simp (maxSteps := 1000000) only [↓reduceIte, go_sem, e0]) | (simp (maxSteps := 1000000) (disch := first | omega | assumption) only [BB, e0]) | with_reducible refine Gst.now ?_ | with_reducible refine vawp_draw mixed (by kernel_rfl) ?_ | with_reducible first | refine lwV_out ?_ | refine lwV_out0 ?_ | refine lkC_out ?_ | refine And.intro (by omega) ?_ | fail)
  first | (apply vopsI_n; (case hd => rfl)) | apply vopsI_0
  repeat (first | (simp (maxSteps := 1000000) only [↓reduceIte, go_sem, e0]) | (simp (maxSteps := 1000000) (disch := first | omega | assumption) only [BB, e0]) | with_reducible refine Gst.now ?_ | with_reducible refine vawp_draw mixed (by kernel_rfl) ?_ | with_reducible first | refine lwV_out ?_ | refine lwV_out0 ?_ | refine lkC_out ?_ | refine And.intro (by omega) ?_ | fail)
  intro j' hj'
  have hn : h j' = none ∧ j' ≠ r' ∧ j' ≠ k' := by
    unfold RowO at hj'
    rw [hset_none, hset_none] at hj'
    exact ⟨hj'.2.2, hj'.1, hj'.2.1⟩
  have e9 := (blkV_nset (b := .cells 61 false [(.sc (.int .i64 ((sz : Nat)))), .own r' 0 (X.length + 1)]) (new_ne e0 hj')).trans e0
  refine ⟨e9, ?_⟩
  first | (apply vopsI_n; (case hd => rfl)) | apply vopsI_0
  repeat (first | (simp (maxSteps := 1000000) only [↓reduceIte, go_sem, e0, e9]) | (simp (maxSteps := 1000000) (disch := first | omega | assumption) only [BB, e0, e9]) | with_reducible refine Gst.now ?_ | with_reducible refine vawp_draw mixed (by kernel_rfl) ?_ | with_reducible first | refine lwV_out ?_ | refine lwV_out0 ?_ | refine lkC_out ?_ | refine And.intro (by omega) ?_ | fail)
  simp only [vopsI_nil]
  repeat (first | (simp (maxSteps := 1000000) only [↓reduceIte, go_sem, e0, e9]) | (simp (maxSteps := 1000000) (disch := first | omega | assumption) only [BB, e0, e9]) | with_reducible refine Gst.now ?_ | with_reducible refine vawp_draw mixed (by kernel_rfl) ?_ | with_reducible first | refine lwV_out ?_ | refine lwV_out0 ?_ | refine lkC_out ?_ | refine And.intro (by omega) ?_ | fail)
  refine hq _ _ ?_
  repeat (first | (simp (maxSteps := 1000000) only [↓reduceIte, go_sem, e0, e9]) | (simp (maxSteps := 1000000) (disch := first | omega | assumption) only [BB, e0, e9]) | with_reducible refine Gst.now ?_ | with_reducible refine vawp_draw mixed (by kernel_rfl) ?_ | with_reducible first | refine lwV_out ?_ | refine lwV_out0 ?_ | refine lkC_out ?_ | refine And.intro (by omega) ?_ | fail)
  exact .now (hK j' r' k' hn.2.1 hn.2.2 hne hn.1 hr' hk')
theorem getD_snoc {X : List RowV} {a : RowV} {i : Nat} (hi : i < X.length) : (X ++ [a]).getD i default = X.getD i default := by
  rw [List.getD_eq_getElem?_getD, List.getD_eq_getElem?_getD, List.getElem?_append_left hi]
theorem getD_last {X : List RowV} {a : RowV} : (X ++ [a]).getD X.length default = a := by
  rw [List.getD_eq_getElem?_getD, List.getElem?_append_right (Nat.le_refl _)]; simp
/-- .. of volumes that are another's. -/
theorem rowX_v {j sz : Nat} {X : List RowV} {L : List Nat} {nl0 : Bool} (hJ : blkV h j = some (61, [(.sc (.int .i64 ((sz : Nat)))), .isl nl0 (X.length + 1) ((X ++ [(⟨false, L⟩ : RowV)]).flatMap rowC)])) (hX : X.length ≤ 1000000000) (hO : ∀ x ∈ X, OkRow x) (hL : L.length ≤ 16777216)
    (hK : ∀ r' k', r' ≠ k' → h r' = none → h k' = none → FrK K (.own r' 0 (X.length + 1)) (RowO h r' k' X L)) : VC Try.prog GL (n + 2) 16 [.op j 0] h K := by
  refine VC_go Try.func16 rfl (by decide) Try.ntmps16 Try.results16 rfl fun Q hq hn => ?_
  repeat (first | (simp (maxSteps := 1000000) only [↓reduceIte, go_sem]) | (simp (maxSteps := 1000000) (disch := first | omega | assumption) only [BB]) | with_reducible refine vawp_draw mixed (by kernel_rfl) ?_ | with_reducible first | refine lwV_out ?_ | refine lwV_out0 ?_ | refine lkC_out ?_ | refine And.intro (by omega) ?_ | fail)
  refine .now ?_
  repeat (first | (simp (maxSteps := 1000000) only [↓reduceIte, go_sem]) | (simp (maxSteps := 1000000) (disch := first | omega | assumption) only [BB]) | with_reducible refine vawp_draw mixed (by kernel_rfl) ?_ | with_reducible first | refine lwV_out ?_ | refine lwV_out0 ?_ | refine lkC_out ?_ | refine And.intro (by omega) ?_ | fail)
  refine .mat 3 33 ?_ ?_
  · repeat (first | (simp (maxSteps := 1000000) only [↓reduceIte, go_sem]) | (simp (maxSteps := 1000000) (disch := first | omega | assumption) only [BB]) | with_reducible refine Gst.now ?_ | with_reducible refine vawp_draw mixed (by kernel_rfl) ?_ | with_reducible first | refine lwV_out ?_ | refine lwV_out0 ?_ | refine lkC_out ?_ | refine And.intro (by omega) ?_ | fail)
  · intro q0 hq0
    have e2 : blkV (hset h q0 (.cells 33 true [])) j = _ := (blkV_nset (new_ne hJ hq0)).trans hJ
    repeat (first | (simp (maxSteps := 1000000) only [↓reduceIte, go_sem, e2]) | (simp (maxSteps := 1000000) (disch := first | omega | assumption) only [BB, e2]) | with_reducible refine Gst.now ?_ | with_reducible refine vawp_draw mixed (by kernel_rfl) ?_ | with_reducible first | refine lwV_out ?_ | refine lwV_out0 ?_ | refine lkC_out ?_ | refine And.intro (by omega) ?_ | fail)
    have hYl : (X ++ [(⟨false, L⟩ : RowV)]).length = X.length + 1 := by simp
    generalize hY : X ++ [(⟨false, L⟩ : RowV)] = Y at *
    refine vawp_loop (k := X.length + 1) (fun d ρ h1 => ∃ i r', d + i = X.length + 1 ∧ ρ 9 = .isl nl0 (X.length + 1) (Y.flatMap rowC) ∧ ρ 10 = (.sc (.int .i64 ((X.length + 1 : Nat)))) ∧ ρ 11 = (.sc (.int .i64 ((i : Nat)))) ∧ ρ 3 = .own r' 0 i ∧ h r' = none ∧ ((i ≤ X.length ∧ ∃ nl, (nl = true → i = 0) ∧ h1 = hset h r' (.cells 33 nl ((X.take i).flatMap rowC))) ∨ (i = X.length + 1 ∧ ∃ k', r' ≠ k' ∧ h k' = none ∧ h1 = RowO h r' k' X L))) ?_ ?_
    · refine ⟨0, q0, by omega, ?_⟩
      repeat (first | (simp (maxSteps := 1000000) only [↓reduceIte, go_sem, e2]) | (simp (maxSteps := 1000000) (disch := first | omega | assumption) only [BB, e2]) | with_reducible refine Gst.now ?_ | with_reducible refine vawp_draw mixed (by kernel_rfl) ?_ | with_reducible first | refine lwV_out ?_ | refine lwV_out0 ?_ | refine lkC_out ?_ | refine And.intro (by omega) ?_ | fail)
      exact .inl ⟨true, rfl⟩
    · rintro d ρ h1 ⟨i, r', hd, g9, g10, g11, g3, hr', hh⟩
      rcases hh with ⟨hi, nl, hnl, rfl⟩ | ⟨rfl, k', hne, hk', rfl⟩
      · have hlt : ((X.take i).flatMap rowC).length = i := by rw [row_len, List.length_take]; omega
        have e6 : i < X.length + 1 := by omega
        have e5 : i < Y.length := by omega
        by_cases hix : i < X.length
        · have e7 : Y.getD i default = X.getD i default := by rw [← hY]; exact getD_snoc hix
          have hok := hO _ (getD_mem hix)
          have htk : (X.take (i + 1)).flatMap rowC = (X.take i).flatMap rowC ++ rowC (X.getD i default) := by rw [take_snocD hix, List.flatMap_append]; simp
          generalize X.getD i default = x at *
          obtain ⟨xn, xs⟩ := x
          obtain rfl : xn = false := hok.nl
          have hxl := hok.len
          simp only at hxl
          repeat (first | (simp (maxSteps := 1000000) only [↓reduceIte, go_sem, e2, g9, g10, g11, g3, e6, e5, e7]) | (simp (maxSteps := 1000000) (disch := first | omega | assumption) only [BB, e2, g9, g10, g11, g3, e6, e5, e7]) | with_reducible refine Gst.now ?_ | with_reducible refine vawp_draw mixed (by kernel_rfl) ?_ | with_reducible first | refine lwV_out ?_ | refine lwV_out0 ?_ | refine lkC_out ?_ | refine And.intro (by omega) ?_ | fail)
          refine call_ok (clone_o rfl (by omega) fun k' hk' => .iso hk' ?_)
          repeat (first | (simp (maxSteps := 1000000) only [↓reduceIte, go_sem, e2, g9, g10, g11, g3, e6, e5, e7]) | (simp (maxSteps := 1000000) (disch := first | omega | assumption) only [BB, e2, g9, g10, g11, g3, e6, e5, e7]) | with_reducible refine Gst.now ?_ | with_reducible refine vawp_draw mixed (by kernel_rfl) ?_ | with_reducible first | refine lwV_out ?_ | refine lwV_out0 ?_ | refine lkC_out ?_ | refine And.intro (by omega) ?_ | fail)
          refine vBuildS_i bs29 ?_ ?_ ?_ ?_ ?_
          rfl
          rfl
          rfl
          rfl
          repeat (first | (simp (maxSteps := 1000000) only [↓reduceIte, go_sem]) | (simp (maxSteps := 1000000) (disch := first | omega | assumption) only [BB]) | with_reducible refine Gst.now ?_ | with_reducible refine vawp_draw mixed (by kernel_rfl) ?_ | with_reducible first | refine lwV_out ?_ | refine lwV_out0 ?_ | refine lkC_out ?_ | refine And.intro (by omega) ?_ | fail)
          apply vApp_own_isl ap29 (by simp only [go_sem])
          case hv => first | (simp [hlt]; done) | (simp [hlt]; omega) | rfl | assumption
          case hj => repeat (first | exact hset_at _ _ _ | assumption | refine (hset_ne _ _ (by first | omega | assumption)).trans ?_ | refine (hdel_ne _ (by first | omega | assumption)).trans ?_ | fail)
          case hl => first | (simp [hlt]; done) | (simp [hlt]; omega) | rfl | assumption
          case h1 => first | omega | (simp [hlt]; omega) | (simp [hlt]; done)
          case h2 => first | omega | (simp [hlt]; omega) | (simp [hlt]; done)
          intro r2 hr2
          try simp (disch := first | omega | assumption) only [go_sem, hset_none, hdel_none] at hr2
          try simp (disch := first | omega | assumption) only [hset_none, hdel_none] at hr2
          repeat (first | (simp (maxSteps := 1000000) only [↓reduceIte, go_sem, e2, g9, g10, g11, g3, e6, e5, e7]) | (simp (maxSteps := 1000000) (disch := first | omega | assumption) only [BB, e2, g9, g10, g11, g3, e6, e5, e7]) | with_reducible refine Gst.now ?_ | with_reducible refine vawp_draw mixed (by kernel_rfl) ?_ | with_reducible first | refine lwV_out ?_ | refine lwV_out0 ?_ | refine lkC_out ?_ | refine And.intro (by omega) ?_ | fail)
          refine ⟨d - 1, by omega, i + 1, r2, by omega, rfl, ⟨rfl, rfl⟩, hr2, .inl ⟨by omega, false, (fun hh => nomatch hh), ?_⟩⟩
          rw [htk]; rfl
        · obtain rfl : i = X.length := by omega
          have e7 : Y.getD X.length default = ⟨false, L⟩ := by rw [← hY]; exact getD_last
          rw [List.take_length] at *
          repeat (first | (simp (maxSteps := 1000000) only [↓reduceIte, go_sem, e2, g9, g10, g11, g3, e6, e5, e7]) | (simp (maxSteps := 1000000) (disch := first | omega | assumption) only [BB, e2, g9, g10, g11, g3, e6, e5, e7]) | with_reducible refine Gst.now ?_ | with_reducible refine vawp_draw mixed (by kernel_rfl) ?_ | with_reducible first | refine lwV_out ?_ | refine lwV_out0 ?_ | refine lkC_out ?_ | refine And.intro (by omega) ?_ | fail)
          refine call_ok (clone_o rfl (by omega) fun k' hk' => .now ?_)
          try simp (disch := first | omega | assumption) only [go_sem, hset_none, hdel_none] at hk'
          try simp (disch := first | omega | assumption) only [hset_none, hdel_none] at hk'
          repeat (first | (simp (maxSteps := 1000000) only [↓reduceIte, go_sem, e2, g9, g10, g11, g3, e6, e5, e7]) | (simp (maxSteps := 1000000) (disch := first | omega | assumption) only [BB, e2, g9, g10, g11, g3, e6, e5, e7]) | with_reducible refine Gst.now ?_ | with_reducible refine vawp_draw mixed (by kernel_rfl) ?_ | with_reducible first | refine lwV_out ?_ | refine lwV_out0 ?_ | refine lkC_out ?_ | refine And.intro (by omega) ?_ | fail)
          refine vBuildS_i bs29 ?_ ?_ ?_ ?_ ?_
          rfl
          rfl
          rfl
          rfl
          repeat (first | (simp (maxSteps := 1000000) only [↓reduceIte, go_sem]) | (simp (maxSteps := 1000000) (disch := first | omega | assumption) only [BB]) | with_reducible refine Gst.now ?_ | with_reducible refine vawp_draw mixed (by kernel_rfl) ?_ | with_reducible first | refine lwV_out ?_ | refine lwV_out0 ?_ | refine lkC_out ?_ | refine And.intro (by omega) ?_ | fail)
          apply vApp_own_isl ap29 (by simp only [go_sem])
          case hv => first | (simp [hlt]; done) | (simp [hlt]; omega) | rfl | assumption
          case hj => repeat (first | exact hset_at _ _ _ | assumption | refine (hset_ne _ _ (by first | omega | assumption)).trans ?_ | refine (hdel_ne _ (by first | omega | assumption)).trans ?_ | fail)
          case hl => first | (simp [hlt]; done) | (simp [hlt]; omega) | rfl | assumption
          case h1 => first | omega | (simp [hlt]; omega) | (simp [hlt]; done)
          case h2 => first | omega | (simp [hlt]; omega) | (simp [hlt]; done)
          intro r2 hr2
          try simp (disch := first | omega | assumption) only [go_sem, hset_none, hdel_none] at hr2
          try simp (disch := first | omega | assumption) only [hset_none, hdel_none] at hr2
          repeat (first | (simp (maxSteps := 1000000) only [↓reduceIte, go_sem, e2, g9, g10, g11, g3, e6, e5, e7]) | (simp (maxSteps := 1000000) (disch := first | omega | assumption) only [BB, e2, g9, g10, g11, g3, e6, e5, e7]) | with_reducible refine Gst.now ?_ | with_reducible refine vawp_draw mixed (by kernel_rfl) ?_ | with_reducible first | refine lwV_out ?_ | refine lwV_out0 ?_ | refine lkC_out ?_ | refine And.intro (by omega) ?_ | fail)
          refine ⟨d - 1, by omega, X.length + 1, r2, by omega, rfl, ⟨rfl, rfl⟩, hr2.2, .inr ⟨rfl, k', hr2.1, hk'.2, rfl⟩⟩
      · repeat (first | (simp (maxSteps := 1000000) only [↓reduceIte, go_sem, e2, g9, g10, g11, g3]) | (simp (maxSteps := 1000000) (disch := first | omega | assumption) only [BB, e2, g9, g10, g11, g3]) | with_reducible refine Gst.now ?_ | with_reducible refine vawp_draw mixed (by kernel_rfl) ?_ | with_reducible first | refine lwV_out ?_ | refine lwV_out0 ?_ | refine lkC_out ?_ | refine And.intro (by omega) ?_ | fail)
        refine hq _ _ ?_
        repeat (first | (simp (maxSteps := 1000000) only [↓reduceIte, go_sem, e2, g9, g10, g11, g3]) | (simp (maxSteps := 1000000) (disch := first | omega | assumption) only [BB, e2, g9, g10, g11, g3]) | with_reducible refine Gst.now ?_ | with_reducible refine vawp_draw mixed (by kernel_rfl) ?_ | with_reducible first | refine lwV_out ?_ | refine lwV_out0 ?_ | refine lkC_out ?_ | refine And.intro (by omega) ?_ | fail)
        exact hK r' k' hne hr' hk'
theorem xclone_v {j sz : Nat} {X : List RowV} {L : List Nat} {nl0 : Bool} (hJ : blkV h j = some (61, [(.sc (.int .i64 ((sz : Nat)))), .isl nl0 (X.length + 1) ((X ++ [(⟨false, L⟩ : RowV)]).flatMap rowC)])) (hX : X.length ≤ 1000000000) (hO : ∀ x ∈ X, OkRow x) (hL : L.length ≤ 16777216)
    (hK : ∀ j' r' k', j' ≠ r' → j' ≠ k' → r' ≠ k' → h j' = none → h r' = none → h k' = none → K (.op j' 0) (WrS h j' r' k' sz X L)) : VC Try.prog GL (n + 3) 23 [.op j 0] h K := by
  refine VC_go Try.func23 rfl (by decide) Try.ntmps23 Try.results23 rfl fun Q hq hn => ?_
  repeat (first | (simp (maxSteps := 1000000) only [↓reduceIte, go_sem]) | (simp (maxSteps := 1000000) (disch := first | omega | assumption) only [BB]) | with_reducible refine Gst.now ?_ | with_reducible first | refine lwV_out ?_ | refine lwV_out0 ?_ | refine lkC_out ?_ | refine And.intro (by omega) ?_ | fail)
  refine vawp_split [0, 1, 2, 3, 4] [5, 6, 7, 8] (fun h' => blkV h' j = some (61, [(.sc (.int .i64 ((sz : Nat)))), .isl nl0 (X.length + 1) ((X ++ [(⟨false, L⟩ : RowV)]).flatMap rowC)])) mixed (by kernel_rfl) ?_ ?_
  · exact hJ
  simp only [pickO_cons, pickO_nil, List.getElem?_toArray, List.getElem?_cons_zero, List.getElem?_cons_succ]
  repeat (first | (apply vopsP_n; (case hd => rfl); (case hq => (intro h' K' hI' hk'; repeat (first | simp (maxSteps := 4000000) (disch := first | omega | assumption) only [↓reduceIte, go_sem, hI'] | with_reducible refine Gst.now ?_ | with_reducible refine vawp_draw mixed (by kernel_rfl) ?_ | with_reducible first | refine lwV_out ?_ | refine lwV_out0 ?_ | refine lkC_out ?_ | refine And.intro (by omega) ?_ | fail); exact hk'))) | fail)
  simp only [vopsP_nil]
  first | (apply vopsI_n; (case hd => rfl)) | apply vopsI_0
  repeat (first | (simp (maxSteps := 1000000) only [↓reduceIte, go_sem]) | (simp (maxSteps := 1000000) (disch := first | omega | assumption) only [BB]) | with_reducible refine Gst.now ?_ | with_reducible refine vawp_draw mixed (by kernel_rfl) ?_ | with_reducible first | refine lwV_out ?_ | refine lwV_out0 ?_ | refine lkC_out ?_ | refine And.intro (by omega) ?_ | fail)
  refine call_ok (rowX_v hJ hX hO hL fun r' k' hne hr' hk' => .now ?_)
  have e0 : blkV (RowO h r' k' X L) j = some (61, [(.sc (.int .i64 ((sz : Nat)))), .isl nl0 (X.length + 1) ((X ++ [(⟨false, L⟩ : RowV)]).flatMap rowC)]) := by
    unfold RowO
    rw [blkV_nset (new_ne hJ hr'), blkV_nset (new_ne hJ hk')]; exact hJ
  refine ⟨e0, ?_⟩
  first | (apply vopsI_n; (case hd => rfl)) | apply vopsI_0
  repeat (first | (simp (maxSteps := 1000000) only [↓reduceIte, go_sem, e0]) | (simp (maxSteps := 1000000) (disch := first | omega | assumption) only [BB, e0]) | with_reducible refine Gst.now ?_ | with_reducible refine vawp_draw mixed (by kernel_rfl) ?_ | with_reducible first | refine lwV_out ?_ | refine lwV_out0 ?_ | refine lkC_out ?_ | refine And.intro (by omega) ?_ | fail)
  first | (apply vopsI_n; (case hd => rfl)) | apply vopsI_0
  repeat (first | (simp (maxSteps := 1000000) only [↓reduceIte, go_sem, e0]) | (simp (maxSteps := 1000000) (disch := first | omega | assumption) only [BB, e0]) | with_reducible refine Gst.now ?_ | with_reducible refine vawp_draw mixed (by kernel_rfl) ?_ | with_reducible first | refine lwV_out ?_ | refine lwV_out0 ?_ | refine lkC_out ?_ | refine And.intro (by omega) ?_ | fail)
  intro j' hj'
  have hn : h j' = none ∧ j' ≠ r' ∧ j' ≠ k' := by
    unfold RowO at hj'
    rw [hset_none, hset_none] at hj'
    exact ⟨hj'.2.2, hj'.1, hj'.2.1⟩
  have e9 := (blkV_nset (b := .cells 61 false [(.sc (.int .i64 ((sz : Nat)))), .own r' 0 (X.length + 1)]) (new_ne e0 hj')).trans e0
  refine ⟨e9, ?_⟩
  first | (apply vopsI_n; (case hd => rfl)) | apply vopsI_0
  repeat (first | (simp (maxSteps := 1000000) only [↓reduceIte, go_sem, e0, e9]) | (simp (maxSteps := 1000000) (disch := first | omega | assumption) only [BB, e0, e9]) | with_reducible refine Gst.now ?_ | with_reducible refine vawp_draw mixed (by kernel_rfl) ?_ | with_reducible first | refine lwV_out ?_ | refine lwV_out0 ?_ | refine lkC_out ?_ | refine And.intro (by omega) ?_ | fail)
  simp only [vopsI_nil]
  repeat (first | (simp (maxSteps := 1000000) only [↓reduceIte, go_sem, e0, e9]) | (simp (maxSteps := 1000000) (disch := first | omega | assumption) only [BB, e0, e9]) | with_reducible refine Gst.now ?_ | with_reducible refine vawp_draw mixed (by kernel_rfl) ?_ | with_reducible first | refine lwV_out ?_ | refine lwV_out0 ?_ | refine lkC_out ?_ | refine And.intro (by omega) ?_ | fail)
  refine hq _ _ ?_
  repeat (first | (simp (maxSteps := 1000000) only [↓reduceIte, go_sem, e0, e9]) | (simp (maxSteps := 1000000) (disch := first | omega | assumption) only [BB, e0, e9]) | with_reducible refine Gst.now ?_ | with_reducible refine vawp_draw mixed (by kernel_rfl) ?_ | with_reducible first | refine lwV_out ?_ | refine lwV_out0 ?_ | refine lkC_out ?_ | refine And.intro (by omega) ?_ | fail)
  exact .now (hK j' r' k' hn.2.1 hn.2.2 hne hn.1 hr' hk')
/-- Does a volume have nothing, or too much? -/
def badR (sz : Int) (r : RowV) : Bool := (r.bs.length == 0) || decide (sz < r.bs.length)
theorem bad_v {p : Nat} {sz : Int} {r : RowV} (hp : blkV h p = some (3, [(.sc (.int .i64 (sz)))])) (hK : K (.sc (.bool (badR sz r))) h) : VC Try.prog GL (n + 1) 31 [rowA r, .op p 0] h K := by
  refine VC_go Try.func31 rfl (by decide) Try.ntmps31 Try.results31 rfl fun Q hq hn => ?_
  unfold badR at hK
  repeat (first | (simp (maxSteps := 1000000) only [↓reduceIte, go_sem]) | (simp (maxSteps := 1000000) (disch := first | omega | assumption) only [BB]) | with_reducible refine vawp_draw mixed (by kernel_rfl) ?_ | with_reducible first | refine lwV_out ?_ | refine lwV_out0 ?_ | refine lkC_out ?_ | refine And.intro (by omega) ?_ | fail)
  first | (with_reducible refine Gst.now ?_) | (with_reducible refine lkC_out ?_; simp only [vawp_skip_eq, thenV_normal]; with_reducible refine Gst.now ?_) | (with_reducible refine lkC_out ?_)
  try simp only [vawp_seq_eq, vawp_block_eq]
  with_reducible refine vawp_regq ?_
  simp only [List.toList_toArray]
  repeat (first | (apply vopsQ_pk; (case hd => rfl); (case h1 => simp (disch := first | omega | assumption) only [↓reduceIte, go_sem, hp]); (case h2 => simp (disch := first | omega | assumption) only [↓reduceIte, go_sem, hp]); (case h3 => simp (disch := first | omega | assumption) only [↓reduceIte, go_sem, hp]); (case hb => simp (disch := first | omega | assumption) only [↓reduceIte, go_sem, hp]); (try simp (disch := first | omega | assumption) only [↓reduceIte, go_sem, hp])) | (apply vopsQ_n; (case hd => rfl); (case hq => (intro K' hk'; repeat (first | simp (maxSteps := 4000000) (disch := first | omega | assumption) only [↓reduceIte, go_sem, hp] | with_reducible refine Gst.now ?_ | with_reducible refine vawp_draw mixed (by kernel_rfl) ?_ | with_reducible first | refine lwV_out ?_ | refine lwV_out0 ?_ | refine lkC_out ?_ | refine And.intro (by omega) ?_ | fail); exact hk'))) | (apply vopsQ_gt; (case hd => rfl); (case h1 => rfl); (case h2 => rfl); (case h3 => simp (disch := first | omega | assumption) only [↓reduceIte, go_sem]); (case hq => (intro K' hk'; repeat (first | simp (maxSteps := 4000000) (disch := first | omega | assumption) only [↓reduceIte, go_sem, hp] | with_reducible refine Gst.now ?_ | with_reducible refine vawp_draw mixed (by kernel_rfl) ?_ | with_reducible first | refine lwV_out ?_ | refine lwV_out0 ?_ | refine lkC_out ?_ | refine And.intro (by omega) ?_ | fail); exact hk'))) | (apply vopsQ_gf'; (case hd => rfl); (case h1 => rfl); (case h2 => rfl); (case h3 => simp (disch := first | omega | assumption) only [↓reduceIte, go_sem, hp])) | (apply vopsQ_gj; (case hd => rfl); (case h1 => rfl); (case h2 => rfl); (case h3 => simp (disch := first | omega | assumption) only [↓reduceIte, go_sem, hp])) | (apply vopsQ_gpk; (case hd => rfl); (case h1 => rfl); (case h2 => rfl); (case h3 => simp (disch := first | omega | assumption) only [↓reduceIte, go_sem, hp]); (case k1 => simp (disch := first | omega | assumption) only [↓reduceIte, go_sem, hp]); (case k2 => simp (disch := first | omega | assumption) only [↓reduceIte, go_sem, hp]); (case k3 => simp (disch := first | omega | assumption) only [↓reduceIte, go_sem, hp]); (case hb => (intro hc; (try simp (disch := first | omega | assumption) only [↓reduceIte, go_sem, hp] at hc); simp (disch := first | omega | assumption) only [↓reduceIte, go_sem, hc, hp])); (try simp (disch := first | omega | assumption) only [↓reduceIte, go_sem, hp])) | (apply vopsQ_gu; (case hd => rfl); (case h1 => rfl); (case h2 => rfl); (case h3 => simp (disch := first | omega | assumption) only [↓reduceIte, go_sem, hp]); (case hq => (intro hc K' hk'; (try simp (disch := first | omega | assumption) only [↓reduceIte, go_sem, hp] at hc); repeat (first | simp (maxSteps := 4000000) (disch := first | omega | assumption) only [↓reduceIte, go_sem, hc, hp] | with_reducible refine Gst.now ?_ | with_reducible refine vawp_draw mixed (by kernel_rfl) ?_ | with_reducible first | refine lwV_out ?_ | refine lwV_out0 ?_ | refine lkC_out ?_ | refine And.intro (by omega) ?_ | fail); exact hk')); (try simp (disch := first | omega | assumption) only [↓reduceIte, go_sem, hp])) | fail)
  simp only [vopsQ_nil]
  repeat (first | (simp (maxSteps := 1000000) only [↓reduceIte, go_sem]) | (simp (maxSteps := 1000000) (disch := first | omega | assumption) only [BB]) | with_reducible refine Gst.now ?_ | with_reducible refine vawp_draw mixed (by kernel_rfl) ?_ | with_reducible first | refine lwV_out ?_ | refine lwV_out0 ?_ | refine lkC_out ?_ | refine And.intro (by omega) ?_ | fail)
  refine hq _ _ ?_
  repeat (first | (simp (maxSteps := 1000000) only [↓reduceIte, go_sem]) | (simp (maxSteps := 1000000) (disch := first | omega | assumption) only [BB]) | with_reducible refine Gst.now ?_ | with_reducible refine vawp_draw mixed (by kernel_rfl) ?_ | with_reducible first | refine lwV_out ?_ | refine lwV_out0 ?_ | refine lkC_out ?_ | refine And.intro (by omega) ?_ | fail)
  exact .now hK
theorem index_v {p : Nat} {sz : Int} {nl : Bool} {l : Nat} {Y : List RowV} (hp : blkV h p = some (3, [(.sc (.int .i64 (sz)))])) (hl : l = Y.length) (hb : Y.length ≤ 140737488355328) (hK : ∀ i : Int, (0 ≤ i ↔ Y.any (badR sz) = true) → K (.sc (.int .i64 (i))) h) : VC Try.prog GL (n + 2) 34 [.isl nl l (Y.flatMap rowC), .fn (.func 31) [] [.op p 0]] h K := by
  refine VC_go Try.func34 rfl (by decide) Try.ntmps34 Try.results34 rfl fun Q hq hn => ?_
  subst hl
  repeat (first | (simp (maxSteps := 1000000) only [↓reduceIte, go_sem]) | (simp (maxSteps := 1000000) (disch := first | omega | assumption) only [BB]) | with_reducible refine Gst.now ?_ | with_reducible refine vawp_draw mixed (by kernel_rfl) ?_ | with_reducible first | refine lwV_out ?_ | refine lwV_out0 ?_ | refine lkC_out ?_ | refine And.intro (by omega) ?_ | fail)
  refine vawp_loop (k := Y.length) (fun k ρ h1 => ∃ i : Nat, k + i = Y.length ∧ ρ 0 = .isl nl Y.length (Y.flatMap rowC) ∧ ρ 1 = .fn (.func 31) [] [.op p 0] ∧ ρ 7 = (.sc (.int .i64 (Y.length))) ∧ ρ 8 = (.sc (.int .i64 (i))) ∧ (Y.take i).any (badR sz) = false ∧ h1 = h) ?_ ?_
  · refine ⟨0, by omega, ?_⟩
    repeat (first | (simp (maxSteps := 1000000) only [↓reduceIte, go_sem]) | (simp (maxSteps := 1000000) (disch := first | omega | assumption) only [BB]) | with_reducible refine Gst.now ?_ | with_reducible refine vawp_draw mixed (by kernel_rfl) ?_ | with_reducible first | refine lwV_out ?_ | refine lwV_out0 ?_ | refine lkC_out ?_ | refine And.intro (by omega) ?_ | fail)
    rfl
  · rintro k ρ h1 ⟨i, hki, g0, g1, g7, g8, hs, rfl⟩
    repeat (first | (simp (maxSteps := 1000000) only [↓reduceIte, go_sem, g0, g1, g7, g8]) | (simp (maxSteps := 1000000) (disch := first | omega | assumption) only [BB, g0, g1, g7, g8]) | with_reducible refine Gst.now ?_ | with_reducible refine vawp_draw mixed (by kernel_rfl) ?_ | with_reducible first | refine lwV_out ?_ | refine lwV_out0 ?_ | refine lkC_out ?_ | refine And.intro (by omega) ?_ | fail)
    split
    · have hi : i < Y.length := by omega
      repeat (first | (simp (maxSteps := 1000000) only [↓reduceIte, go_sem, g0, g1, g7, g8]) | (simp (maxSteps := 1000000) (disch := first | omega | assumption) only [BB, g0, g1, g7, g8]) | with_reducible refine Gst.now ?_ | with_reducible refine vawp_draw mixed (by kernel_rfl) ?_ | with_reducible first | refine lwV_out ?_ | refine lwV_out0 ?_ | refine lkC_out ?_ | refine And.intro (by omega) ?_ | fail)
      with_reducible refine call_ok ?_
      refine bad_v hp ?_
      cases hbd : badR sz (Y.getD i default) with
      | true =>
        repeat (first | (simp (maxSteps := 1000000) only [↓reduceIte, go_sem, g0, g1, g7, g8]) | (simp (maxSteps := 1000000) (disch := first | omega | assumption) only [BB, g0, g1, g7, g8]) | with_reducible refine Gst.now ?_ | with_reducible refine vawp_draw mixed (by kernel_rfl) ?_ | with_reducible first | refine lwV_out ?_ | refine lwV_out0 ?_ | refine lkC_out ?_ | refine And.intro (by omega) ?_ | fail)
        refine hq _ _ ?_
        repeat (first | (simp (maxSteps := 1000000) only [↓reduceIte, go_sem, g0, g1, g7, g8]) | (simp (maxSteps := 1000000) (disch := first | omega | assumption) only [BB, g0, g1, g7, g8]) | with_reducible refine Gst.now ?_ | with_reducible refine vawp_draw mixed (by kernel_rfl) ?_ | with_reducible first | refine lwV_out ?_ | refine lwV_out0 ?_ | refine lkC_out ?_ | refine And.intro (by omega) ?_ | fail)
        exact .now (hK _ ⟨fun _ => List.any_eq_true.2 ⟨_, getD_mem hi, hbd⟩, fun _ => by omega⟩)
      | false =>
        repeat (first | (simp (maxSteps := 1000000) only [↓reduceIte, go_sem, g0, g1, g7, g8]) | (simp (maxSteps := 1000000) (disch := first | omega | assumption) only [BB, g0, g1, g7, g8]) | with_reducible refine Gst.now ?_ | with_reducible refine vawp_draw mixed (by kernel_rfl) ?_ | with_reducible first | refine lwV_out ?_ | refine lwV_out0 ?_ | refine lkC_out ?_ | refine And.intro (by omega) ?_ | fail)
        refine ⟨k - 1, by omega, i + 1, by omega, ?_⟩
        repeat (first | (simp (maxSteps := 1000000) only [↓reduceIte, go_sem, g0, g1, g7, g8]) | (simp (maxSteps := 1000000) (disch := first | omega | assumption) only [BB, g0, g1, g7, g8]) | with_reducible refine Gst.now ?_ | with_reducible refine vawp_draw mixed (by kernel_rfl) ?_ | with_reducible first | refine lwV_out ?_ | refine lwV_out0 ?_ | refine lkC_out ?_ | refine And.intro (by omega) ?_ | fail)
        rw [take_snocD hi, List.any_append, hs, List.any_cons, hbd]; rfl
    · have hi : i = Y.length := by omega
      subst hi
      rw [List.take_length] at hs
      repeat (first | (simp (maxSteps := 1000000) only [↓reduceIte, go_sem, g0, g1, g7, g8]) | (simp (maxSteps := 1000000) (disch := first | omega | assumption) only [BB, g0, g1, g7, g8]) | with_reducible refine Gst.now ?_ | with_reducible refine vawp_draw mixed (by kernel_rfl) ?_ | with_reducible first | refine lwV_out ?_ | refine lwV_out0 ?_ | refine lkC_out ?_ | refine And.intro (by omega) ?_ | fail)
      refine hq _ _ ?_
      repeat (first | (simp (maxSteps := 1000000) only [↓reduceIte, go_sem, g0, g1, g7, g8]) | (simp (maxSteps := 1000000) (disch := first | omega | assumption) only [BB, g0, g1, g7, g8]) | with_reducible refine Gst.now ?_ | with_reducible refine vawp_draw mixed (by kernel_rfl) ?_ | with_reducible first | refine lwV_out ?_ | refine lwV_out0 ?_ | refine lkC_out ?_ | refine And.intro (by omega) ?_ | fail)
      exact .now (hK _ ⟨fun hh => absurd hh (by decide), fun hh => by rw [hs] at hh; cases hh⟩)
theorem contains_v {p : Nat} {sz : Int} {nl : Bool} {l : Nat} {Y : List RowV} (hp : blkV h p = some (3, [(.sc (.int .i64 (sz)))])) (hl : l = Y.length) (hb : Y.length ≤ 140737488355328) (hK : K (.sc (.bool (Y.any (badR sz)))) h) : VC Try.prog GL (n + 3) 30 [.isl nl l (Y.flatMap rowC), .fn (.func 31) [] [.op p 0]] h K := by
  refine VC_go Try.func30 rfl (by decide) Try.ntmps30 Try.results30 rfl fun Q hq hn => ?_
  repeat (first | (simp (maxSteps := 1000000) only [↓reduceIte, go_sem]) | (simp (maxSteps := 1000000) (disch := first | omega | assumption) only [BB]) | with_reducible refine Gst.now ?_ | with_reducible refine vawp_draw mixed (by kernel_rfl) ?_ | with_reducible first | refine lwV_out ?_ | refine lwV_out0 ?_ | refine lkC_out ?_ | refine And.intro (by omega) ?_ | fail)
  refine call_ok (index_v hp hl hb fun i hi => ?_)
  have e1 : decide (0 ≤ i) = Y.any (badR sz) := by rw [Bool.eq_iff_iff, decide_eq_true_eq]; exact hi
  repeat (first | (simp (maxSteps := 1000000) only [↓reduceIte, go_sem, e1]) | (simp (maxSteps := 1000000) (disch := first | omega | assumption) only [BB, e1]) | with_reducible refine Gst.now ?_ | with_reducible refine vawp_draw mixed (by kernel_rfl) ?_ | with_reducible first | refine lwV_out ?_ | refine lwV_out0 ?_ | refine lkC_out ?_ | refine And.intro (by omega) ?_ | fail)
  refine hq _ _ ?_
  repeat (first | (simp (maxSteps := 1000000) only [↓reduceIte, go_sem, e1]) | (simp (maxSteps := 1000000) (disch := first | omega | assumption) only [BB, e1]) | with_reducible refine Gst.now ?_ | with_reducible refine vawp_draw mixed (by kernel_rfl) ?_ | with_reducible first | refine lwV_out ?_ | refine lwV_out0 ?_ | refine lkC_out ?_ | refine And.intro (by omega) ?_ | fail)
  exact .now hK
theorem go_v {sz : Int} {nl : Bool} {l : Nat} {Y : List RowV} (hl : l = Y.length) (hb : Y.length ≤ 1000000000) (hO : ∀ x ∈ Y, x.nl = false)
    (hK0 : ¬ (5 ≤ sz ∧ sz ≤ 16777216) → K (.tup [.sc (.pointer none), (.sc (.int .i64 (1)))]) h)
    (hK1 : 5 ≤ sz → sz ≤ 16777216 → (Y = [] ∨ Y.any (badR sz) = true) → K (.tup [.sc (.pointer none), (.sc (.int .i64 (21)))]) h)
    (hK2 : 5 ≤ sz → sz ≤ 16777216 → Y.any (badR sz) = false → ∀ X L, Y = X ++ [⟨false, L⟩] → ∀ j r k, j ≠ r → j ≠ k → r ≠ k → h j = none → h r = none → h k = none → K (.tup [.op j 0, (.sc (.int .i64 (0)))]) (WrS h j r k sz.toNat X L)) : VC Try.prog GL (n + 4) 22 [(.sc (.int .i64 (sz))), .isl nl l (Y.flatMap rowC)] h K := by
  refine VC_go Try.func22 rfl (by decide) Try.ntmps22 Try.results22 rfl fun Q hq hn => ?_
  subst hl
  repeat (first | (simp (maxSteps := 1000000) only [↓reduceIte, go_sem]) | (simp (maxSteps := 1000000) (disch := first | omega | assumption) only [BB]) | with_reducible refine Gst.now ?_ | with_reducible refine vawp_draw mixed (by kernel_rfl) ?_ | with_reducible first | refine lwV_out ?_ | refine lwV_out0 ?_ | refine lkC_out ?_ | refine And.intro (by omega) ?_ | fail)
  intro p hp
  by_cases h1 : sz < 5
  · have e1 := decide_eq_true h1
    repeat (first | (simp (maxSteps := 1000000) only [↓reduceIte, go_sem, e1]) | (simp (maxSteps := 1000000) (disch := first | omega | assumption) only [BB, e1]) | with_reducible refine Gst.now ?_ | with_reducible refine vawp_draw mixed (by kernel_rfl) ?_ | with_reducible first | refine lwV_out ?_ | refine lwV_out0 ?_ | refine lkC_out ?_ | refine And.intro (by omega) ?_ | fail)
    refine hq _ _ ?_
    repeat (first | (simp (maxSteps := 1000000) only [↓reduceIte, go_sem, e1]) | (simp (maxSteps := 1000000) (disch := first | omega | assumption) only [BB, e1]) | with_reducible refine Gst.now ?_ | with_reducible refine vawp_draw mixed (by kernel_rfl) ?_ | with_reducible first | refine lwV_out ?_ | refine lwV_out0 ?_ | refine lkC_out ?_ | refine And.intro (by omega) ?_ | fail)
    refine .drop p ?_
    refine FrK.now (hcast (hK0 (by omega)) ?_)
    first | rfl | (funext i; simp only [hset, hdel]; repeat' split) <;> (first | rfl | (subst_vars; simp_all [hset, hdel]; done) | (subst_vars; exfalso; simp_all [hset, hdel]; done))
  have e1 := decide_eq_false h1
  by_cases h2 : 16777216 < sz
  · have e2 := decide_eq_true h2
    repeat (first | (simp (maxSteps := 1000000) only [↓reduceIte, go_sem, e1, e2]) | (simp (maxSteps := 1000000) (disch := first | omega | assumption) only [BB, e1, e2]) | with_reducible refine Gst.now ?_ | with_reducible refine vawp_draw mixed (by kernel_rfl) ?_ | with_reducible first | refine lwV_out ?_ | refine lwV_out0 ?_ | refine lkC_out ?_ | refine And.intro (by omega) ?_ | fail)
    refine hq _ _ ?_
    repeat (first | (simp (maxSteps := 1000000) only [↓reduceIte, go_sem, e1, e2]) | (simp (maxSteps := 1000000) (disch := first | omega | assumption) only [BB, e1, e2]) | with_reducible refine Gst.now ?_ | with_reducible refine vawp_draw mixed (by kernel_rfl) ?_ | with_reducible first | refine lwV_out ?_ | refine lwV_out0 ?_ | refine lkC_out ?_ | refine And.intro (by omega) ?_ | fail)
    refine .drop p ?_
    refine FrK.now (hcast (hK0 (by omega)) ?_)
    first | rfl | (funext i; simp only [hset, hdel]; repeat' split) <;> (first | rfl | (subst_vars; simp_all [hset, hdel]; done) | (subst_vars; exfalso; simp_all [hset, hdel]; done))
  have e2 := decide_eq_false h2
  have e5 := hdel_hset (b := .cells 3 false [(.sc (.int .i64 (sz)))]) hp
  by_cases h3 : Y.length = 0
  · have e3 : (Y.length == 0) = true := beq_iff_eq.2 h3
    repeat (first | (simp (maxSteps := 1000000) only [↓reduceIte, go_sem, e1, e2, e5, e3]) | (simp (maxSteps := 1000000) (disch := first | omega | assumption) only [BB, e1, e2, e5, e3]) | with_reducible refine Gst.now ?_ | with_reducible refine vawp_draw mixed (by kernel_rfl) ?_ | with_reducible first | refine lwV_out ?_ | refine lwV_out0 ?_ | refine lkC_out ?_ | refine And.intro (by omega) ?_ | fail)
    refine hq _ _ ?_
    repeat (first | (simp (maxSteps := 1000000) only [↓reduceIte, go_sem, e1, e2, e5, e3]) | (simp (maxSteps := 1000000) (disch := first | omega | assumption) only [BB, e1, e2, e5, e3]) | with_reducible refine Gst.now ?_ | with_reducible refine vawp_draw mixed (by kernel_rfl) ?_ | with_reducible first | refine lwV_out ?_ | refine lwV_out0 ?_ | refine lkC_out ?_ | refine And.intro (by omega) ?_ | fail)
    refine .drop p ?_
    refine FrK.now (hcast (hK1 (by omega) (by omega) (.inl (List.eq_nil_of_length_eq_zero h3))) ?_)
    first | rfl | (funext i; simp only [hset, hdel]; repeat' split) <;> (first | rfl | (subst_vars; simp_all [hset, hdel]; done) | (subst_vars; exfalso; simp_all [hset, hdel]; done))
  have e3 : (Y.length == 0) = false := beq_false_of_ne h3
  repeat (first | (simp (maxSteps := 1000000) only [↓reduceIte, go_sem, e1, e2, e5, e3]) | (simp (maxSteps := 1000000) (disch := first | omega | assumption) only [BB, e1, e2, e5, e3]) | with_reducible refine Gst.now ?_ | with_reducible refine vawp_draw mixed (by kernel_rfl) ?_ | with_reducible first | refine lwV_out ?_ | refine lwV_out0 ?_ | refine lkC_out ?_ | refine And.intro (by omega) ?_ | fail)
  refine call_ok (contains_v blkV_set rfl (by omega) ?_)
  cases hbad : Y.any (badR sz) with
  | true =>
    repeat (first | (simp (maxSteps := 1000000) only [↓reduceIte, go_sem, e1, e2, e5, e3]) | (simp (maxSteps := 1000000) (disch := first | omega | assumption) only [BB, e1, e2, e5, e3]) | with_reducible refine Gst.now ?_ | with_reducible refine vawp_draw mixed (by kernel_rfl) ?_ | with_reducible first | refine lwV_out ?_ | refine lwV_out0 ?_ | refine lkC_out ?_ | refine And.intro (by omega) ?_ | fail)
    refine hq _ _ ?_
    repeat (first | (simp (maxSteps := 1000000) only [↓reduceIte, go_sem, e1, e2, e5, e3]) | (simp (maxSteps := 1000000) (disch := first | omega | assumption) only [BB, e1, e2, e5, e3]) | with_reducible refine Gst.now ?_ | with_reducible refine vawp_draw mixed (by kernel_rfl) ?_ | with_reducible first | refine lwV_out ?_ | refine lwV_out0 ?_ | refine lkC_out ?_ | refine And.intro (by omega) ?_ | fail)
    refine .drop p ?_
    refine FrK.now (hcast (hK1 (by omega) (by omega) (.inr hbad)) ?_)
    first | rfl | (funext i; simp only [hset, hdel]; repeat' split) <;> (first | rfl | (subst_vars; simp_all [hset, hdel]; done) | (subst_vars; exfalso; simp_all [hset, hdel]; done))
  | false =>
    obtain ⟨X, x, rfl⟩ : ∃ X x, Y = X ++ [x] := ⟨Y.dropLast, _, (List.dropLast_concat_getLast (fun hh => h3 (by rw [hh]; rfl))).symm⟩
    obtain ⟨xn, L⟩ := x
    obtain rfl : xn = false := hO _ (List.mem_append_right _ (List.mem_singleton_self _))
    have hall : ∀ x ∈ X ++ [(⟨false, L⟩ : RowV)], x.bs.length ≤ 16777216 := fun x hx => by
      have := List.any_eq_false.1 hbad x hx
      unfold badR at this
      simp only [Bool.or_eq_true, decide_eq_true_eq, not_or] at this
      omega
    have e4 : (X ++ [(⟨false, L⟩ : RowV)]).length = X.length + 1 := by simp
    rw [e4] at hb
    obtain ⟨s, rfl⟩ := Int.eq_ofNat_of_zero_le (show 0 ≤ sz by omega)
    simp only [Int.ofNat_eq_natCast] at *
    repeat (first | (simp (maxSteps := 1000000) only [↓reduceIte, go_sem, e1, e2, e5, e3, e4]) | (simp (maxSteps := 1000000) (disch := first | omega | assumption) only [BB, e1, e2, e5, e3, e4]) | with_reducible refine Gst.now ?_ | with_reducible refine vawp_draw mixed (by kernel_rfl) ?_ | with_reducible first | refine lwV_out ?_ | refine lwV_out0 ?_ | refine lkC_out ?_ | refine And.intro (by omega) ?_ | fail)
    intro q hq1
    try simp (disch := first | omega | assumption) only [go_sem, hset_none, hdel_none] at hq1
    try simp (disch := first | omega | assumption) only [hset_none, hdel_none] at hq1
    repeat (first | (simp (maxSteps := 1000000) only [↓reduceIte, go_sem, e1, e2, e5, e3, e4]) | (simp (maxSteps := 1000000) (disch := first | omega | assumption) only [BB, e1, e2, e5, e3, e4]) | with_reducible refine Gst.now ?_ | with_reducible refine vawp_draw mixed (by kernel_rfl) ?_ | with_reducible first | refine lwV_out ?_ | refine lwV_out0 ?_ | refine lkC_out ?_ | refine And.intro (by omega) ?_ | fail)
    refine call_ok (xclone_v (sz := s) (X := X) (L := L) (nl0 := nl) blkV_set (by omega) (fun x hx => ⟨hO x (List.mem_append_left _ hx), hall x (List.mem_append_left _ hx)⟩) (hall ⟨false, L⟩ (List.mem_append_right _ (List.mem_singleton_self _))) fun j r k n1 n2 n3 hj hr hk => ?_)
    rw [hset_none, hset_none] at hj hr hk
    repeat (first | (simp (maxSteps := 1000000) only [↓reduceIte, go_sem, e1, e2, e5, e3, e4]) | (simp (maxSteps := 1000000) (disch := first | omega | assumption) only [BB, e1, e2, e5, e3, e4]) | with_reducible refine Gst.now ?_ | with_reducible refine vawp_draw mixed (by kernel_rfl) ?_ | with_reducible first | refine lwV_out ?_ | refine lwV_out0 ?_ | refine lkC_out ?_ | refine And.intro (by omega) ?_ | fail)
    refine hq _ _ ?_
    repeat (first | (simp (maxSteps := 1000000) only [↓reduceIte, go_sem, e1, e2, e5, e3, e4]) | (simp (maxSteps := 1000000) (disch := first | omega | assumption) only [BB, e1, e2, e5, e3, e4]) | with_reducible refine Gst.now ?_ | with_reducible refine vawp_draw mixed (by kernel_rfl) ?_ | with_reducible first | refine lwV_out ?_ | refine lwV_out0 ?_ | refine lkC_out ?_ | refine And.intro (by omega) ?_ | fail)
    refine .drop p (.drop q (.now ?_))
    refine hcast (hK2 (by omega) (by omega) hbad X L rfl j r k n1 n2 n3 hj.2.2 hr.2.2 hk.2.2) ?_
    rw [WrS_hdel (by omega) (by omega) (by omega), WrS_hdel (by omega) (by omega) (by omega), Int.toNat_natCast]
    congr 1
    funext i
    simp only [hset, hdel]
    repeat' split
    all_goals first | rfl | (subst_vars; simp_all; done)
end
end Go.Proofs.Ytbmikefignmkdaa.VSpan3
