/- TailTurns, over the machine of values. -/
import Derived.Test.YtcdjaihaalaepaaProg
import Derived.Test.YtcdjaihaalaepaaAbV14
import Derived.Test.YtcdjaihaalaepaaAbFacts
import Derived.Test.YtcdjaihaalaepaaAbLittleM
import Derived.Test.YtcdjaihaalaepaaAbVLittle
import Derived.Test.YtcdjaihaalaepaaAbVSame
import Derived.Test.YtcdjaihaalaepaaAbVRef07
import Derived.Test.YtcdjaihaalaepaaAbVTail
import Derived.Test.YtcdjaihaalaepaaAbVTailR
import Derived.Test.YtcdjaihaalaepaaAbVTailP
import Derived.Test.YtcdjaihaalaepaaAbVTailQ
import Derived.Test.YtcdjaihaalaepaaAbVParse
import Derived.Test.YtcdjaihaalaepaaAbVLaw
import Derived.Test.YtcdjaihaalaepaaAbVTailM
import Derived.Test.YtcdjaihaalaepaaAbVLawB
import Derived.KernelRfl
import Derived.Laws.BitsAllLaws
set_option linter.unusedVariables false
set_option linter.unusedSimpArgs false
set_option maxRecDepth 100000
set_option maxHeartbeats 4000000
namespace Go.Proofs.Ytcdjaihaalaepaa.VTurn
open Go.RowKit Go.Proofs.AbM Go.Proofs.Ytcdjaihaalaepaa.Facts Go.Proofs.Ytcdjaihaalaepaa.LittleM Go.Proofs.Ytcdjaihaalaepaa.VLittle Go.Proofs.Ytcdjaihaalaepaa.VSame Go.Proofs.Ytcdjaihaalaepaa.VRef07 Go.Proofs.Ytcdjaihaalaepaa.VTail Go.Proofs.Ytcdjaihaalaepaa.VTailR Go.Proofs.Ytcdjaihaalaepaa.VTailP Go.Proofs.Ytcdjaihaalaepaa.VTailQ Go.Proofs.Ytcdjaihaalaepaa.VParse Go.Proofs.Ytcdjaihaalaepaa.VLaw Go.Proofs.Ytcdjaihaalaepaa.VTailM Go.Proofs.Ytcdjaihaalaepaa.VLawB
attribute [local go_sem] vawp_skip_eq vawp_seq_eq vawp_region_eq vawp_cond_g vawp_block_eq vawp_exit_eq vawp_ret_eq thenV_ret thenV_exit thenV_normal inBlockV_normal inBlockV_ret inBlockV_exit resKV_nil resKV_tmp resKV_cell oneV_one oneV_nil oneV_more initV_nil initV_cons updV_at evv_tmp evv_func evv_global evv_int evv_bool evv_str evv_snil evv_pnil evv_agg ofV3_int ofV3_bool ofV3_str ofV3_snil ofV3_pnil vok_tmp vok_func vok_global vok_int vok_bool vok_str vok_snil vok_pnil vok_agg cloV3_int cloV3_bool cloV3_str cloV3_snil cloV3_pnil voks_nil voks_cons scV_int scV_bool scV_str isBlV_b isBV_t isBV_f lwV_none lwV_sc lwV_agg lwV_tup lwV_isl lwV_own lwV_op lwV_ip lwV_fn lwV_junk vops_nil vops_n vops_s gsN_eq vop dstOk_some dstOk_none pkV_b blkV_set eRead_f eRead_t vLoad_op vLoad_ip vStore_op cells_sc cells_isl cells_own cells_op cells_ip cells_fn cells_agg parts_sc parts_isl parts_own parts_op parts_ip parts_fn parts_agg one_sc one_isl one_own one_op one_ip one_fn vField_op vField_ip ePart_f ePart_t vFieldV_agg vIx_isl vIx_own vIx_op vIx_ip vIxV_agg vIxV_str vLen_str vLen_isl vLen_own vLen_agg bndE_none bndE_int vSlice_isl vSlice_str vBin_add vBin_sub vBin_mul vBin_quo vBin_rem vBin_and vBin_or vBin_xor vBin_andNot vBin_eql vBin_neq vBin_lss vBin_leq vBin_gtr vBin_geq vBin_shr_i8 vBin_shl_i8 vBin_shr_i16 vBin_shl_i16 vBin_shr_i32 vBin_shl_i32 vBin_shr_i64 vBin_shl_i64 vBin_shr_u8 vBin_shl_u8 vBin_shr_u16 vBin_shl_u16 vBin_shr_u32 vBin_shl_u32 vBin_shr_u64 vBin_shl_u64 vBin_seq vBin_sne vBin_isln vBin_opn vBin_ipn ex_sc ex_sc2 ex_sc3 ex_tup calleeV wSc_pb wSc_pi wSc_not wSc_neg wSc_com wSc_min2 wSc_max2 vfold_nil vfold_one vfold_cons vfill_nil vfill_e eFill_s vBuild vBox vAlloc setV_map setV_zs setV_zn setV_s hset_hset eConv_ss vConv_e iv_eq ivI_eq ex_get ex_getI set_iv set_ivI okNil isNilV isSlV hdel_at hset_at List.map_toArray List.map_cons List.map_nil List.nil_append List.cons_append List.append_nil List.toList_toArray List.getElem?_toArray List.getElem_toArray List.getElem_cons_zero List.getElem_cons_succ List.getElem?_cons_zero List.getElem?_cons_succ List.set_cons_zero List.set_cons_succ List.set_set List.length_cons List.length_nil List.length_set List.length_map List.all_cons List.all_nil List.drop_zero List.drop_succ_cons List.take_succ_cons List.take_zero List.flatMap_cons Bool.and_eq_true true_and and_true if_true if_false ite_true ite_false forall_eq' forall_eq exists_eq_left exists_eq_left' exists_eq' Value.bool.injEq Value.int.injEq Value.string.injEq Value.pointer.injEq Option.some.injEq AV.sc.injEq AV.op.injEq AV.ip.injEq AV.own.injEq AV.agg.injEq VB.cells.injEq VB.iter.injEq Prod.mk.injEq decide_eq_true_eq decide_eq_false_iff_not Nat.reduceEqDiff Nat.reduceLT Nat.reduceLeDiff Nat.reduceSub Nat.reduceBEq reduceIte Int.reduceLE Int.reduceLT Int.reduceToNat Int.reduceNeg Int.reduceEq Int.reduceNe Int.cast_ofNat_Int Nat.reduceMul Nat.reduceAdd Nat.reduceDiv Nat.reduceMod Nat.reducePow Int.reduceSub Int.reduceAdd Int.reduceMul Int.reducePow Option.isSome_some Option.isSome_none Option.bind_some Option.map_some Option.map_none Option.toList_some Option.toList_none true_or or_true or_false false_or Bool.not_true Bool.not_false Bool.not_eq_true Bool.false_eq_true Bool.not_not false_implies true_implies implies_true Nat.zero_add Nat.add_zero Nat.mul_one Bool.not_eq_true' Bool.true_eq_false Bool.and_true Bool.true_and Bool.and_false Bool.false_and Bool.or_true Bool.true_or Bool.or_false Bool.false_or Option.isNone_some Option.isNone_none Int.reduceBEq Int.reduceBNe beq_self_eq_true bne_self_eq_false beq_iff_eq not_false_eq_true not_true_eq_false Decidable.not_not bne_iff_ne ne_eq Int.toNat_natCast gt_lt ge_le c_add c_mul c_sub c_addn c_nadd c_muln c_nmul c_subn c_nsub c_divn c_modn c_div c_mod c_tdivn c_tmodn c_tdiv c_tmod c_pow c_nn c_beq c_beqn c_bne c_bnen wr64 wr32 wru64 wru32 wru16 wru8 c_if c_if1 c_if2 c_lt c_le c_eq c_ltn c_len c_nlt c_nle c_eqn m_drop m_take Nat.add_sub_cancel_left Nat.add_sub_cancel Int.reduceTMod Int.reduceTDiv Int.reduceMod Int.reduceDiv isC_some hset_ne hdel_ne hdel_hset hdel_hset_ne blkV_nset blkV_ndel hset_hdel gV_t gV_f isGdV_b isGdV_u isBV_u isGdV_g isBV_gt isBV_gf decide_true decide_false Bool.or_eq_false_iff eq_self Nat.lt_irrefl Int.lt_irrefl Nat.le_refl Int.le_refl
attribute [local go_sem high] vops_pk vops_mv vops_as vops_smv pk_and pk_or pk_gand pk_gor pk_orn pk_gorn
attribute [local go_sem] ag3 sz3 zc3 ik3 ag4 sz4 zc4 ag5 sz5 zc5 ik5 ag9 sz9 zc9 iq9 ag22 sz22 zc22 ik22 ag23 sz23 zc23 ik23 ag25 sz25 zc25 eqs25 nes25 bo25 ag27 sz27 zc27 eqs27 nes27 bo27 ag29 sz29 el29 zc29 is29 ag33 sz33 zc33 ik33 ag41 sz41 zc41 ag45 sz45 zc45 bo45 ag47 sz47 el47 zc47 is47 ag48 sz48 el48 zc48 is48 ag52 sz52 el52 zc52 is52 ag56 sz56 el56 zc56 is56 ag59 sz59 zc59 pt59 ag63 sz63 zc63 bo63 of25_0 fd25_0 of25_1 fd25_1 of25_2 fd25_2 of25_3 fd25_3 of25_4 fd25_4 of25_5 fd25_5 of25_6 fd25_6 of25_7 fd25_7 of25_8 fd25_8 of27_0 fd27_0 of27_1 fd27_1 of27_2 fd27_2 of27_3 fd27_3 of27_4 fd27_4 of27_5 fd27_5 of27_6 fd27_6 of27_7 fd27_7 of27_8 fd27_8 of45_0 fd45_0 of45_1 fd45_1 of63_0 fd63_0 of63_1 fd63_1 of63_2 fd63_2 eqb neb
section
variable {n : Nat} {h : VH} {K : AV → VH → Prop}
attribute [local go_sem] tC t0 mixT
theorem and1023 (n : Int) : bits .and .i64 n 1023 = (((n % 1024).toNat : Nat) : Int) := by
  have h31 : (BitVec.ofInt 64 1023).toNat = 2 ^ 10 - 1 := by decide
  have key : (BitVec.ofInt 64 n &&& BitVec.ofInt 64 1023).toNat = (n % ((2 ^ 64 : Nat) : Int)).toNat % 2 ^ 10 := by
    rw [BitVec.toNat_and, BitVec.toNat_ofInt, h31, Nat.and_two_pow_sub_one_eq_mod]
  show IntKind.i64.wrap ((BitVec.ofInt 64 n &&& BitVec.ofInt 64 1023).toNat : Nat) = _
  rw [key, IntKind.wrap_i64]
  omega
theorem set_ne {xs : List Nat} {i y : Nat} (hi : i < xs.length) (hy : y ≠ xs.getD i 0) : xs.set i y ≠ xs := by
  intro h
  have := congrArg (fun l => l.getD i 0) h
  simp only [List.getD_eq_getElem?_getD, List.getElem?_set_self hi, Option.getD_some] at this
  exact hy (by rw [List.getD_eq_getElem?_getD]; exact this)
theorem turns_v {t u : TailV} {x : Int} {c : Nat} (ht : OkT t) (hu : OkT u) (hc : c < 256) (hK : ∀ h', K (.sc (.bool (true))) h') : VC Try.prog GL (n + 8) 7 [.agg (tC t), (.sc (.int .i64 (x))), (.sc (.int .u8 (c))), .agg (tC u)] h K := by
  refine VC_go Try.func7 rfl (by decide) Try.ntmps7 Try.results7 rfl fun Q hq hn => ?_
  have lG := greatF_len t
  have lL := locF_len t
  have lLu := locF_len u
  have lE := endF_len t
  have bG := isBy_layN (greatF t)
  have bL := isBy_layN (locF t)
  have bLu := isBy_layN (locF u)
  have bE := isBy_layN (endF t)
  have pb := parse_back ht hu
  repeat (first | (simp (maxSteps := 1000000) only [↓reduceIte, go_sem]) | (simp (maxSteps := 1000000) (disch := first | omega | assumption) only [BB]) | with_reducible refine vawp_draw mixed (by kernel_rfl) ?_ | with_reducible first | refine lwV_out ?_ | refine lwV_out0 ?_ | refine lkC_out ?_ | refine And.intro (by omega) ?_ | fail)
  intro j hj
  repeat (first | (simp (maxSteps := 1000000) only [↓reduceIte, go_sem]) | (simp (maxSteps := 1000000) (disch := first | omega | assumption) only [BB]) | with_reducible refine vawp_draw mixed (by kernel_rfl) ?_ | with_reducible first | refine lwV_out ?_ | refine lwV_out0 ?_ | refine lkC_out ?_ | refine And.intro (by omega) ?_ | fail)
  intro p hp
  try simp (disch := first | omega | assumption) only [go_sem, hset_none, hdel_none] at hp
  try simp (disch := first | omega | assumption) only [hset_none, hdel_none] at hp
  refine .frzp (cs := tC t) (e := 25) 4 j ?_ rfl (.frzp (cs := tC u) (e := 25) 7 p ?_ rfl ?_)
  · rw [hset_ne _ _ (by omega)]; exact hset_at _ _ _
  · rw [hdel_ne _ (by omega)]; exact hset_at _ _ _
  refine Gst.cast (h := h) ?_ (by first | rfl | (funext i; simp only [hset, hdel]; repeat' split) <;> (first | rfl | (subst_vars; simp_all [hset, hdel]; done) | (subst_vars; exfalso; simp_all [hset, hdel]; done)))
  first | (with_reducible refine Gst.now ?_) | (with_reducible refine lkC_out ?_; simp only [vawp_skip_eq, thenV_normal]; with_reducible refine Gst.now ?_) | (with_reducible refine lkC_out ?_)
  repeat (first | (simp (maxSteps := 1000000) only [↓reduceIte, go_sem]) | (simp (maxSteps := 1000000) (disch := first | omega | assumption) only [BB]) | with_reducible refine vawp_draw mixed (by kernel_rfl) ?_ | with_reducible first | refine lwV_out ?_ | refine lwV_out0 ?_ | refine lkC_out ?_ | refine And.intro (by omega) ?_ | fail)
  with_reducible refine call_pure ?_
  refine alive_v fun _ => ⟨rfl, ?_⟩
  repeat (first | (simp (maxSteps := 1000000) only [↓reduceIte, go_sem]) | (simp (maxSteps := 1000000) (disch := first | omega | assumption) only [BB]) | with_reducible refine vawp_draw mixed (by kernel_rfl) ?_ | with_reducible first | refine lwV_out ?_ | refine lwV_out0 ?_ | refine lkC_out ?_ | refine And.intro (by omega) ?_ | fail)
  first | (with_reducible refine Gst.now ?_) | (with_reducible refine lkC_out ?_; simp only [vawp_skip_eq, thenV_normal]; with_reducible refine Gst.now ?_) | (with_reducible refine lkC_out ?_)
  repeat (first | (simp (maxSteps := 1000000) only [↓reduceIte, go_sem]) | (simp (maxSteps := 1000000) (disch := first | omega | assumption) only [BB]) | with_reducible refine vawp_draw mixed (by kernel_rfl) ?_ | with_reducible first | refine lwV_out ?_ | refine lwV_out0 ?_ | refine lkC_out ?_ | refine And.intro (by omega) ?_ | fail)
  first | (with_reducible refine Gst.now ?_) | (with_reducible refine lkC_out ?_; simp only [vawp_skip_eq, thenV_normal]; with_reducible refine Gst.now ?_) | (with_reducible refine lkC_out ?_)
  simp only [vawp_seq_eq]
  refine vawp_split [0, 2, 4] [1, 3, 5, 6, 7, 8] (fun _ => True) mixed (by kernel_rfl) ?_ ?_
  · trivial
  simp only [pickO_cons, pickO_nil, List.getElem?_toArray, List.getElem?_cons_zero, List.getElem?_cons_succ]
  repeat (first | (apply vopsP_n; (case hd => rfl); (case hq => (intro h' K' hI' hk'; repeat (first | simp (maxSteps := 4000000) (disch := first | omega | assumption) only [↓reduceIte, go_sem, hI'] | with_reducible refine Gst.now ?_ | with_reducible refine vawp_draw mixed (by kernel_rfl) ?_ | with_reducible first | refine lwV_out ?_ | refine lwV_out0 ?_ | refine lkC_out ?_ | refine And.intro (by omega) ?_ | fail); exact hk'))) | fail)
  simp only [vopsP_nil]
  first | (apply vopsI_n; (case hd => rfl)) | apply vopsI_0
  repeat (first | (simp (maxSteps := 1000000) only [↓reduceIte, go_sem]) | (simp (maxSteps := 1000000) (disch := first | omega | assumption) only [BB]) | with_reducible refine Gst.now ?_ | with_reducible refine vawp_draw mixed (by kernel_rfl) ?_ | with_reducible first | refine lwV_out ?_ | refine lwV_out0 ?_ | refine lkC_out ?_ | refine And.intro (by omega) ?_ | fail)
  with_reducible refine call_ok ?_
  refine great_o ht fun a ha => .now ?_
  try simp (disch := first | omega | assumption) only [go_sem, hset_none, hdel_none] at ha
  try simp (disch := first | omega | assumption) only [hset_none, hdel_none] at ha
  first | (apply vopsI_n; (case hd => rfl)) | apply vopsI_0
  repeat (first | (simp (maxSteps := 1000000) only [↓reduceIte, go_sem]) | (simp (maxSteps := 1000000) (disch := first | omega | assumption) only [BB]) | with_reducible refine Gst.now ?_ | with_reducible refine vawp_draw mixed (by kernel_rfl) ?_ | with_reducible first | refine lwV_out ?_ | refine lwV_out0 ?_ | refine lkC_out ?_ | refine And.intro (by omega) ?_ | fail)
  with_reducible refine call_ok ?_
  refine loc_o ht fun b hb => .now ?_
  try simp (disch := first | omega | assumption) only [go_sem, hset_none, hdel_none] at hb
  try simp (disch := first | omega | assumption) only [hset_none, hdel_none] at hb
  first | (apply vopsI_n; (case hd => rfl)) | apply vopsI_0
  repeat (first | (simp (maxSteps := 1000000) only [↓reduceIte, go_sem]) | (simp (maxSteps := 1000000) (disch := first | omega | assumption) only [BB]) | with_reducible refine Gst.now ?_ | with_reducible refine vawp_draw mixed (by kernel_rfl) ?_ | with_reducible first | refine lwV_out ?_ | refine lwV_out0 ?_ | refine lkC_out ?_ | refine And.intro (by omega) ?_ | fail)
  with_reducible refine call_ok ?_
  refine end_o ht fun e he => .now ?_
  try simp (disch := first | omega | assumption) only [go_sem, hset_none, hdel_none] at he
  try simp (disch := first | omega | assumption) only [hset_none, hdel_none] at he
  first | (apply vopsI_n; (case hd => rfl)) | apply vopsI_0
  repeat (first | (simp (maxSteps := 1000000) only [↓reduceIte, go_sem]) | (simp (maxSteps := 1000000) (disch := first | omega | assumption) only [BB]) | with_reducible refine Gst.now ?_ | with_reducible refine vawp_draw mixed (by kernel_rfl) ?_ | with_reducible first | refine lwV_out ?_ | refine lwV_out0 ?_ | refine lkC_out ?_ | refine And.intro (by omega) ?_ | fail)
  first | (apply vopsI_n; (case hd => rfl)) | apply vopsI_0
  repeat (first | (simp (maxSteps := 1000000) only [↓reduceIte, go_sem]) | (simp (maxSteps := 1000000) (disch := first | omega | assumption) only [BB]) | with_reducible refine Gst.now ?_ | with_reducible refine vawp_draw mixed (by kernel_rfl) ?_ | with_reducible first | refine lwV_out ?_ | refine lwV_out0 ?_ | refine lkC_out ?_ | refine And.intro (by omega) ?_ | fail)
  first | (apply vopsI_n; (case hd => rfl)) | apply vopsI_0
  repeat (first | (simp (maxSteps := 1000000) only [↓reduceIte, go_sem]) | (simp (maxSteps := 1000000) (disch := first | omega | assumption) only [BB]) | with_reducible refine Gst.now ?_ | with_reducible refine vawp_draw mixed (by kernel_rfl) ?_ | with_reducible first | refine lwV_out ?_ | refine lwV_out0 ?_ | refine lkC_out ?_ | refine And.intro (by omega) ?_ | fail)
  simp only [vopsI_nil]
  repeat (first | (simp (maxSteps := 1000000) only [↓reduceIte, go_sem]) | (simp (maxSteps := 1000000) (disch := first | omega | assumption) only [BB]) | with_reducible refine Gst.now ?_ | with_reducible first | refine lwV_out ?_ | refine lwV_out0 ?_ | refine lkC_out ?_ | refine And.intro (by omega) ?_ | fail)
  with_reducible refine call_ok ?_
  refine loc_v hu ?_
  repeat (first | (simp (maxSteps := 1000000) only [↓reduceIte, go_sem]) | (simp (maxSteps := 1000000) (disch := first | omega | assumption) only [BB]) | with_reducible refine Gst.now ?_ | with_reducible first | refine lwV_out ?_ | refine lwV_out0 ?_ | refine lkC_out ?_ | refine And.intro (by omega) ?_ | fail)
  have fa := hset_at h a (.cells 5 false ((layN (greatF t)).map (iv .u8)))
  have hba : b ≠ a := by omega
  have hea : e ≠ a := by omega
  have heb : e ≠ b := by omega
  generalize hH : hset (hset (hset h a (.cells 5 false ((layN (greatF t)).map (iv .u8)))) b (.cells 5 false ((layN (locF t)).map (iv .u8)))) e (.cells 5 false ((layN (endF t)).map (iv .u8))) = H at *
  have fA : H a = some (.cells 5 false ((layN (greatF t)).map (iv .u8))) := by rw [← hH, hset_ne _ _ (by omega), hset_ne _ _ (by omega)]; exact hset_at _ _ _
  have fB : H b = some (.cells 5 false ((layN (locF t)).map (iv .u8))) := by rw [← hH, hset_ne _ _ (by omega)]; exact hset_at _ _ _
  have fE : H e = some (.cells 5 false ((layN (endF t)).map (iv .u8))) := by rw [← hH]; exact hset_at _ _ _
  refine call_lend [.isl false 56 ((layN (greatF t)).map (iv .u8)), .isl false 20 ((layN (locF u)).map (iv .u8)), .isl false 22 ((layN (endF t)).map (iv .u8))] ⟨.same fA, .refl _, .same fE, trivial⟩ (parse_v lG.symm lLu.symm lE.symm bG bLu bE (by omega) (by omega) (by omega) (fun e => by cases e) (fun e => by cases e) ?_)
  rw [pb]
  refine ⟨rfl, ?_⟩
  repeat (first | (simp (maxSteps := 1000000) only [↓reduceIte, go_sem]) | (simp (maxSteps := 1000000) (disch := first | omega | assumption) only [BB]) | with_reducible refine Gst.now ?_ | with_reducible first | refine lwV_out ?_ | refine lwV_out0 ?_ | refine lkC_out ?_ | refine And.intro (by omega) ?_ | fail)
  intro q1 hq1
  try simp (disch := first | omega | assumption) only [go_sem, hset_none, hdel_none] at hq1
  try simp (disch := first | omega | assumption) only [hset_none, hdel_none] at hq1
  repeat (first | (simp (maxSteps := 1000000) only [↓reduceIte, go_sem]) | (simp (maxSteps := 1000000) (disch := first | omega | assumption) only [BB]) | with_reducible refine vawp_draw mixed (by kernel_rfl) ?_ | with_reducible first | refine lwV_out ?_ | refine lwV_out0 ?_ | refine lkC_out ?_ | refine And.intro (by omega) ?_ | fail)
  first | (with_reducible refine Gst.now ?_) | (with_reducible refine lkC_out ?_; simp only [vawp_skip_eq, thenV_normal]; with_reducible refine Gst.now ?_) | (with_reducible refine lkC_out ?_)
  repeat (first | (simp (maxSteps := 1000000) only [↓reduceIte, go_sem]) | (simp (maxSteps := 1000000) (disch := first | omega | assumption) only [BB]) | with_reducible refine vawp_draw mixed (by kernel_rfl) ?_ | with_reducible first | refine lwV_out ?_ | refine lwV_out0 ?_ | refine lkC_out ?_ | refine And.intro (by omega) ?_ | fail)
  intro q2 hq2
  try simp (disch := first | omega | assumption) only [go_sem, hset_none, hdel_none] at hq2
  try simp (disch := first | omega | assumption) only [hset_none, hdel_none] at hq2
  first | (with_reducible refine Gst.now ?_) | (with_reducible refine lkC_out ?_; simp only [vawp_skip_eq, thenV_normal]; with_reducible refine Gst.now ?_) | (with_reducible refine lkC_out ?_)
  simp only [vawp_seq_eq]
  refine vawp_split [0, 1, 2, 3, 4, 5, 6, 8, 10] [7, 9, 11] (fun h' => (blkV h' q2).isSome = true) mixed (by kernel_rfl) ?_ ?_
  · rw [blkV_set]; rfl
  simp only [pickO_cons, pickO_nil, List.getElem?_toArray, List.getElem?_cons_zero, List.getElem?_cons_succ]
  repeat (first | (apply vopsP_n; (case hd => rfl); (case hq => (intro h' K' hI' hk'; repeat (first | simp (maxSteps := 4000000) (disch := first | omega | assumption) only [↓reduceIte, go_sem, hI'] | with_reducible refine Gst.now ?_ | with_reducible refine vawp_draw mixed (by kernel_rfl) ?_ | with_reducible first | refine lwV_out ?_ | refine lwV_out0 ?_ | refine lkC_out ?_ | refine And.intro (by omega) ?_ | fail); exact hk'))) | fail)
  simp only [vopsP_nil]
  first | (apply vopsI_n; (case hd => rfl)) | apply vopsI_0
  repeat (first | (simp (maxSteps := 1000000) only [↓reduceIte, go_sem]) | (simp (maxSteps := 1000000) (disch := first | omega | assumption) only [BB]) | with_reducible refine Gst.now ?_ | with_reducible refine vawp_draw mixed (by kernel_rfl) ?_ | with_reducible first | refine lwV_out ?_ | refine lwV_out0 ?_ | refine lkC_out ?_ | refine And.intro (by omega) ?_ | fail)
  first | (apply vopsI_n; (case hd => rfl)) | apply vopsI_0
  repeat (first | (simp (maxSteps := 1000000) only [↓reduceIte, go_sem]) | (simp (maxSteps := 1000000) (disch := first | omega | assumption) only [BB]) | with_reducible refine Gst.now ?_ | with_reducible refine vawp_draw mixed (by kernel_rfl) ?_ | with_reducible first | refine lwV_out ?_ | refine lwV_out0 ?_ | refine lkC_out ?_ | refine And.intro (by omega) ?_ | fail)
  first | (apply vopsI_n; (case hd => rfl)) | apply vopsI_0
  repeat (first | (simp (maxSteps := 1000000) only [↓reduceIte, go_sem]) | (simp (maxSteps := 1000000) (disch := first | omega | assumption) only [BB]) | with_reducible refine Gst.now ?_ | with_reducible refine vawp_draw mixed (by kernel_rfl) ?_ | with_reducible first | refine lwV_out ?_ | refine lwV_out0 ?_ | refine lkC_out ?_ | refine And.intro (by omega) ?_ | fail)
  simp only [vopsI_nil]
  have hx := and1023 x
  generalize hm : (x % 1024).toNat = m at *
  have hml : m < 1024 := by omega
  have n1 : a ≠ q1 := by rintro rfl; rw [fA] at hq1; cases hq1
  have n2 : b ≠ q1 := by rintro rfl; rw [fB] at hq1; cases hq1
  have n3 : e ≠ q1 := by rintro rfl; rw [fE] at hq1; cases hq1
  have n4 : a ≠ q2 := by rintro rfl; rw [fA] at hq2; cases hq2.2
  have n5 : b ≠ q2 := by rintro rfl; rw [fB] at hq2; cases hq2.2
  have n6 : e ≠ q2 := by rintro rfl; rw [fE] at hq2; cases hq2.2
  have cA := blkV_iff.2 fA
  have cB := blkV_iff.2 fB
  have cE := blkV_iff.2 fE
  repeat (first | (simp (maxSteps := 1000000) only [↓reduceIte, go_sem, hx, fA, fB, fE]) | (simp (maxSteps := 1000000) (disch := first | omega | assumption) only [BB, hx, fA, fB, fE]) | with_reducible refine Gst.now ?_ | with_reducible first | refine lwV_out ?_ | refine lwV_out0 ?_ | refine lkC_out ?_ | refine And.intro (by omega) ?_ | fail)
  split
  · repeat (first | (simp (maxSteps := 1000000) only [↓reduceIte, go_sem]) | (simp (maxSteps := 1000000) (disch := first | omega | assumption) only [BB]) | with_reducible refine Gst.now ?_ | with_reducible refine vawp_draw mixed (by kernel_rfl) ?_ | with_reducible first | refine lwV_out ?_ | refine lwV_out0 ?_ | refine lkC_out ?_ | refine And.intro (by omega) ?_ | fail)
    refine hq _ _ ?_
    repeat (first | (simp (maxSteps := 1000000) only [↓reduceIte, go_sem]) | (simp (maxSteps := 1000000) (disch := first | omega | assumption) only [BB]) | with_reducible refine Gst.now ?_ | with_reducible refine vawp_draw mixed (by kernel_rfl) ?_ | with_reducible first | refine lwV_out ?_ | refine lwV_out0 ?_ | refine lkC_out ?_ | refine And.intro (by omega) ?_ | fail)
    exact .now (hK _)
  · rename_i hc0
    repeat (first | (simp (maxSteps := 1000000) only [↓reduceIte, go_sem, fA, fB, fE, cA, cB, cE]) | (simp (maxSteps := 1000000) (disch := first | omega | assumption) only [BB, fA, fB, fE, cA, cB, cE]) | with_reducible refine Gst.now ?_ | with_reducible refine vawp_draw mixed (by kernel_rfl) ?_ | with_reducible first | refine lwV_out ?_ | refine lwV_out0 ?_ | refine lkC_out ?_ | refine And.intro (by omega) ?_ | fail)
    split
    · rename_i h56
      have hgl := bG.getD (m % 98)
      have exy : bits .xor .u8 ((layN (greatF t)).getD (m % 98) 0 : Int) (c : Int) = (((layN (greatF t)).getD (m % 98) 0 ^^^ c : Nat) : Int) := u8_xor_nat _ _ hgl hc
      have hyl : (layN (greatF t)).getD (m % 98) 0 ^^^ c < 256 := Nat.xor_lt_two_pow (n := 8) hgl hc
      have hyn : (layN (greatF t)).getD (m % 98) 0 ^^^ c ≠ (layN (greatF t)).getD (m % 98) 0 := by
        intro hh
        have := congrArg (fun z => (layN (greatF t)).getD (m % 98) 0 ^^^ z) hh
        simp only [← Nat.xor_assoc, Nat.xor_self, Nat.zero_xor] at this
        exact hc0 this
      repeat (first | (simp (maxSteps := 1000000) only [↓reduceIte, go_sem, exy, fA, fB, fE, cA, cB, cE]) | (simp (maxSteps := 1000000) (disch := first | omega | assumption) only [BB, exy, fA, fB, fE, cA, cB, cE]) | with_reducible refine Gst.now ?_ | with_reducible refine vawp_draw mixed (by kernel_rfl) ?_ | with_reducible first | refine lwV_out ?_ | refine lwV_out0 ?_ | refine lkC_out ?_ | refine And.intro (by omega) ?_ | fail)
      generalize (layN (greatF t)).getD (m % 98) 0 ^^^ c = y at *
      have l' : ((layN (greatF t)).set (m % 98) y).length = 56 := by rw [List.length_set]; exact lG
      have b' : IsBy ((layN (greatF t)).set (m % 98) y) := fun z hz => by
        rcases List.mem_or_eq_of_mem_set hz with h | rfl
        · exact bG z h
        · exact hyl
      have hne := set_ne (xs := (layN (greatF t))) (i := m % 98) (by omega) hyn
      refine call_lend [.isl false 56 (((layN (greatF t)).set (m % 98) y).map (iv .u8)), .isl false 20 ((layN (locF t)).map (iv .u8)), .isl false 22 ((layN (endF t)).map (iv .u8))] ⟨.same (by repeat (first | exact hset_at _ _ _ | assumption | rw [hset_ne _ _ (by omega)])), .same (by repeat (first | exact hset_at _ _ _ | assumption | rw [hset_ne _ _ (by omega)])), .same (by repeat (first | exact hset_at _ _ _ | assumption | rw [hset_ne _ _ (by omega)])), trivial⟩ (parse_v l'.symm lL.symm lE.symm b' bL bE (by omega) (by omega) (by omega) (fun e => by cases e) (fun e => by cases e) ?_)
      have ko := parse_ok (g := ((layN (greatF t)).set (m % 98) y)) (l := (layN (locF t))) (e := (layN (endF t))) b' bL
      have ke := parse_err (g := ((layN (greatF t)).set (m % 98) y)) (l := (layN (locF t))) (e := (layN (endF t)))
      generalize parseN ((layN (greatF t)).set (m % 98) y) (layN (locF t)) (layN (endF t)) = r at *
      obtain ⟨w, z⟩ := r
      simp only at ko ke
      refine ⟨rfl, ?_⟩
      by_cases hz : z = 0
      · obtain ⟨k1, k2, k3, _⟩ := ko hz
        subst hz
        have hwt : w ≠ t := by
          rintro rfl
          exact hne k1.symm
        have eT : (w.d == t.d && (w.s == t.s && (w.h == t.h && (w.c == t.c && (w.z == t.z && (w.o == t.o && (w.d64 == t.d64 && (w.ds == t.ds && w.o64 == t.o64)))))))) = false := by
          rw [Bool.eq_false_iff]
          intro hh
          simp only [Bool.and_eq_true, beq_iff_eq] at hh
          apply hwt
          cases w; cases t
          simp only [TailV.mk.injEq]
          exact hh
        repeat (first | (simp (maxSteps := 1000000) only [↓reduceIte, go_sem]) | (simp (maxSteps := 1000000) (disch := first | omega | assumption) only [BB]) | with_reducible refine Gst.now ?_ | with_reducible refine vawp_draw mixed (by kernel_rfl) ?_ | with_reducible first | refine lwV_out ?_ | refine lwV_out0 ?_ | refine lkC_out ?_ | refine And.intro (by omega) ?_ | fail)
        intro q3 hq3
        try simp (disch := first | omega | assumption) only [go_sem, hset_none, hdel_none] at hq3
        try simp (disch := first | omega | assumption) only [hset_none, hdel_none] at hq3
        repeat (first | (simp (maxSteps := 1000000) only [↓reduceIte, go_sem, eT]) | (simp (maxSteps := 1000000) (disch := first | omega | assumption) only [BB, eT]) | with_reducible refine Gst.now ?_ | with_reducible refine vawp_draw mixed (by kernel_rfl) ?_ | with_reducible first | refine lwV_out ?_ | refine lwV_out0 ?_ | refine lkC_out ?_ | refine And.intro (by omega) ?_ | fail)
        refine hq _ _ ?_
        repeat (first | (simp (maxSteps := 1000000) only [↓reduceIte, go_sem]) | (simp (maxSteps := 1000000) (disch := first | omega | assumption) only [BB]) | with_reducible refine Gst.now ?_ | with_reducible refine vawp_draw mixed (by kernel_rfl) ?_ | with_reducible first | refine lwV_out ?_ | refine lwV_out0 ?_ | refine lkC_out ?_ | refine And.intro (by omega) ?_ | fail)
        exact .now (hK _)
      · have hx := ke hz
        subst hx
        have e8 := eq_false hz
        repeat (first | (simp (maxSteps := 1000000) only [↓reduceIte, go_sem, e8]) | (simp (maxSteps := 1000000) (disch := first | omega | assumption) only [BB, e8]) | with_reducible refine Gst.now ?_ | with_reducible refine vawp_draw mixed (by kernel_rfl) ?_ | with_reducible first | refine lwV_out ?_ | refine lwV_out0 ?_ | refine lkC_out ?_ | refine And.intro (by omega) ?_ | fail)
        intro q3 hq3
        try simp (disch := first | omega | assumption) only [go_sem, hset_none, hdel_none] at hq3
        try simp (disch := first | omega | assumption) only [hset_none, hdel_none] at hq3
        repeat (first | (simp (maxSteps := 1000000) only [↓reduceIte, go_sem, e8]) | (simp (maxSteps := 1000000) (disch := first | omega | assumption) only [BB, e8]) | with_reducible refine Gst.now ?_ | with_reducible refine vawp_draw mixed (by kernel_rfl) ?_ | with_reducible first | refine lwV_out ?_ | refine lwV_out0 ?_ | refine lkC_out ?_ | refine And.intro (by omega) ?_ | fail)
        refine hq _ _ ?_
        repeat (first | (simp (maxSteps := 1000000) only [↓reduceIte, go_sem, e8]) | (simp (maxSteps := 1000000) (disch := first | omega | assumption) only [BB, e8]) | with_reducible refine Gst.now ?_ | with_reducible refine vawp_draw mixed (by kernel_rfl) ?_ | with_reducible first | refine lwV_out ?_ | refine lwV_out0 ?_ | refine lkC_out ?_ | refine And.intro (by omega) ?_ | fail)
        exact .now (hK _)
    · rename_i h56
      repeat (first | (simp (maxSteps := 1000000) only [↓reduceIte, go_sem, fA, fB, fE, cA, cB, cE]) | (simp (maxSteps := 1000000) (disch := first | omega | assumption) only [BB, fA, fB, fE, cA, cB, cE]) | with_reducible refine Gst.now ?_ | with_reducible refine vawp_draw mixed (by kernel_rfl) ?_ | with_reducible first | refine lwV_out ?_ | refine lwV_out0 ?_ | refine lkC_out ?_ | refine And.intro (by omega) ?_ | fail)
      split
      · rename_i h76
        have ei : ((m % 98 : Nat) : Int) - 56 = ((m % 98 - 56 : Nat) : Int) := by omega
        have hgl := bL.getD (m % 98 - 56)
        have exy : bits .xor .u8 ((layN (locF t)).getD (m % 98 - 56) 0 : Int) (c : Int) = (((layN (locF t)).getD (m % 98 - 56) 0 ^^^ c : Nat) : Int) := u8_xor_nat _ _ hgl hc
        have hyl : (layN (locF t)).getD (m % 98 - 56) 0 ^^^ c < 256 := Nat.xor_lt_two_pow (n := 8) hgl hc
        have hyn : (layN (locF t)).getD (m % 98 - 56) 0 ^^^ c ≠ (layN (locF t)).getD (m % 98 - 56) 0 := by
          intro hh
          have := congrArg (fun z => (layN (locF t)).getD (m % 98 - 56) 0 ^^^ z) hh
          simp only [← Nat.xor_assoc, Nat.xor_self, Nat.zero_xor] at this
          exact hc0 this
        repeat (first | (simp (maxSteps := 1000000) only [↓reduceIte, go_sem, exy, ei, fA, fB, fE, cA, cB, cE]) | (simp (maxSteps := 1000000) (disch := first | omega | assumption) only [BB, exy, ei, fA, fB, fE, cA, cB, cE]) | with_reducible refine Gst.now ?_ | with_reducible refine vawp_draw mixed (by kernel_rfl) ?_ | with_reducible first | refine lwV_out ?_ | refine lwV_out0 ?_ | refine lkC_out ?_ | refine And.intro (by omega) ?_ | fail)
        generalize (layN (locF t)).getD (m % 98 - 56) 0 ^^^ c = y at *
        have l' : ((layN (locF t)).set (m % 98 - 56) y).length = 20 := by rw [List.length_set]; exact lL
        have b' : IsBy ((layN (locF t)).set (m % 98 - 56) y) := fun z hz => by
          rcases List.mem_or_eq_of_mem_set hz with h | rfl
          · exact bL z h
          · exact hyl
        have hne := set_ne (xs := (layN (locF t))) (i := m % 98 - 56) (by omega) hyn
        refine call_lend [.isl false 56 ((layN (greatF t)).map (iv .u8)), .isl false 20 (((layN (locF t)).set (m % 98 - 56) y).map (iv .u8)), .isl false 22 ((layN (endF t)).map (iv .u8))] ⟨.same (by repeat (first | exact hset_at _ _ _ | assumption | rw [hset_ne _ _ (by omega)])), .same (by repeat (first | exact hset_at _ _ _ | assumption | rw [hset_ne _ _ (by omega)])), .same (by repeat (first | exact hset_at _ _ _ | assumption | rw [hset_ne _ _ (by omega)])), trivial⟩ (parse_v lG.symm l'.symm lE.symm bG b' bE (by omega) (by omega) (by omega) (fun e => by cases e) (fun e => by cases e) ?_)
        have ko := parse_ok (g := (layN (greatF t))) (l := ((layN (locF t)).set (m % 98 - 56) y)) (e := (layN (endF t))) bG b'
        have ke := parse_err (g := (layN (greatF t))) (l := ((layN (locF t)).set (m % 98 - 56) y)) (e := (layN (endF t)))
        generalize parseN (layN (greatF t)) ((layN (locF t)).set (m % 98 - 56) y) (layN (endF t)) = r at *
        obtain ⟨w, z⟩ := r
        simp only at ko ke
        refine ⟨rfl, ?_⟩
        by_cases hz : z = 0
        · obtain ⟨k1, k2, k3, _⟩ := ko hz
          subst hz
          have hwt : w ≠ t := by
            rintro rfl
            exact hne k2.symm
          have eT : (w.d == t.d && (w.s == t.s && (w.h == t.h && (w.c == t.c && (w.z == t.z && (w.o == t.o && (w.d64 == t.d64 && (w.ds == t.ds && w.o64 == t.o64)))))))) = false := by
            rw [Bool.eq_false_iff]
            intro hh
            simp only [Bool.and_eq_true, beq_iff_eq] at hh
            apply hwt
            cases w; cases t
            simp only [TailV.mk.injEq]
            exact hh
          repeat (first | (simp (maxSteps := 1000000) only [↓reduceIte, go_sem]) | (simp (maxSteps := 1000000) (disch := first | omega | assumption) only [BB]) | with_reducible refine Gst.now ?_ | with_reducible refine vawp_draw mixed (by kernel_rfl) ?_ | with_reducible first | refine lwV_out ?_ | refine lwV_out0 ?_ | refine lkC_out ?_ | refine And.intro (by omega) ?_ | fail)
          intro q3 hq3
          try simp (disch := first | omega | assumption) only [go_sem, hset_none, hdel_none] at hq3
          try simp (disch := first | omega | assumption) only [hset_none, hdel_none] at hq3
          repeat (first | (simp (maxSteps := 1000000) only [↓reduceIte, go_sem, eT]) | (simp (maxSteps := 1000000) (disch := first | omega | assumption) only [BB, eT]) | with_reducible refine Gst.now ?_ | with_reducible refine vawp_draw mixed (by kernel_rfl) ?_ | with_reducible first | refine lwV_out ?_ | refine lwV_out0 ?_ | refine lkC_out ?_ | refine And.intro (by omega) ?_ | fail)
          refine hq _ _ ?_
          repeat (first | (simp (maxSteps := 1000000) only [↓reduceIte, go_sem]) | (simp (maxSteps := 1000000) (disch := first | omega | assumption) only [BB]) | with_reducible refine Gst.now ?_ | with_reducible refine vawp_draw mixed (by kernel_rfl) ?_ | with_reducible first | refine lwV_out ?_ | refine lwV_out0 ?_ | refine lkC_out ?_ | refine And.intro (by omega) ?_ | fail)
          exact .now (hK _)
        · have hx := ke hz
          subst hx
          have e8 := eq_false hz
          repeat (first | (simp (maxSteps := 1000000) only [↓reduceIte, go_sem, e8]) | (simp (maxSteps := 1000000) (disch := first | omega | assumption) only [BB, e8]) | with_reducible refine Gst.now ?_ | with_reducible refine vawp_draw mixed (by kernel_rfl) ?_ | with_reducible first | refine lwV_out ?_ | refine lwV_out0 ?_ | refine lkC_out ?_ | refine And.intro (by omega) ?_ | fail)
          intro q3 hq3
          try simp (disch := first | omega | assumption) only [go_sem, hset_none, hdel_none] at hq3
          try simp (disch := first | omega | assumption) only [hset_none, hdel_none] at hq3
          repeat (first | (simp (maxSteps := 1000000) only [↓reduceIte, go_sem, e8]) | (simp (maxSteps := 1000000) (disch := first | omega | assumption) only [BB, e8]) | with_reducible refine Gst.now ?_ | with_reducible refine vawp_draw mixed (by kernel_rfl) ?_ | with_reducible first | refine lwV_out ?_ | refine lwV_out0 ?_ | refine lkC_out ?_ | refine And.intro (by omega) ?_ | fail)
          refine hq _ _ ?_
          repeat (first | (simp (maxSteps := 1000000) only [↓reduceIte, go_sem, e8]) | (simp (maxSteps := 1000000) (disch := first | omega | assumption) only [BB, e8]) | with_reducible refine Gst.now ?_ | with_reducible refine vawp_draw mixed (by kernel_rfl) ?_ | with_reducible first | refine lwV_out ?_ | refine lwV_out0 ?_ | refine lkC_out ?_ | refine And.intro (by omega) ?_ | fail)
          exact .now (hK _)
      · rename_i h76
        have ei : ((m % 98 : Nat) : Int) - 76 = ((m % 98 - 76 : Nat) : Int) := by omega
        have hgl := bE.getD (m % 98 - 76)
        have exy : bits .xor .u8 ((layN (endF t)).getD (m % 98 - 76) 0 : Int) (c : Int) = (((layN (endF t)).getD (m % 98 - 76) 0 ^^^ c : Nat) : Int) := u8_xor_nat _ _ hgl hc
        have hyl : (layN (endF t)).getD (m % 98 - 76) 0 ^^^ c < 256 := Nat.xor_lt_two_pow (n := 8) hgl hc
        have hyn : (layN (endF t)).getD (m % 98 - 76) 0 ^^^ c ≠ (layN (endF t)).getD (m % 98 - 76) 0 := by
          intro hh
          have := congrArg (fun z => (layN (endF t)).getD (m % 98 - 76) 0 ^^^ z) hh
          simp only [← Nat.xor_assoc, Nat.xor_self, Nat.zero_xor] at this
          exact hc0 this
        repeat (first | (simp (maxSteps := 1000000) only [↓reduceIte, go_sem, exy, ei, fA, fB, fE, cA, cB, cE]) | (simp (maxSteps := 1000000) (disch := first | omega | assumption) only [BB, exy, ei, fA, fB, fE, cA, cB, cE]) | with_reducible refine Gst.now ?_ | with_reducible refine vawp_draw mixed (by kernel_rfl) ?_ | with_reducible first | refine lwV_out ?_ | refine lwV_out0 ?_ | refine lkC_out ?_ | refine And.intro (by omega) ?_ | fail)
        generalize (layN (endF t)).getD (m % 98 - 76) 0 ^^^ c = y at *
        have l' : ((layN (endF t)).set (m % 98 - 76) y).length = 22 := by rw [List.length_set]; exact lE
        have b' : IsBy ((layN (endF t)).set (m % 98 - 76) y) := fun z hz => by
          rcases List.mem_or_eq_of_mem_set hz with h | rfl
          · exact bE z h
          · exact hyl
        have hne := set_ne (xs := (layN (endF t))) (i := m % 98 - 76) (by omega) hyn
        refine call_lend [.isl false 56 ((layN (greatF t)).map (iv .u8)), .isl false 20 ((layN (locF t)).map (iv .u8)), .isl false 22 (((layN (endF t)).set (m % 98 - 76) y).map (iv .u8))] ⟨.same (by repeat (first | exact hset_at _ _ _ | assumption | rw [hset_ne _ _ (by omega)])), .same (by repeat (first | exact hset_at _ _ _ | assumption | rw [hset_ne _ _ (by omega)])), .same (by repeat (first | exact hset_at _ _ _ | assumption | rw [hset_ne _ _ (by omega)])), trivial⟩ (parse_v lG.symm lL.symm l'.symm bG bL b' (by omega) (by omega) (by omega) (fun e => by cases e) (fun e => by cases e) ?_)
        have ko := parse_ok (g := (layN (greatF t))) (l := (layN (locF t))) (e := ((layN (endF t)).set (m % 98 - 76) y)) bG bL
        have ke := parse_err (g := (layN (greatF t))) (l := (layN (locF t))) (e := ((layN (endF t)).set (m % 98 - 76) y))
        generalize parseN (layN (greatF t)) (layN (locF t)) ((layN (endF t)).set (m % 98 - 76) y) = r at *
        obtain ⟨w, z⟩ := r
        simp only at ko ke
        refine ⟨rfl, ?_⟩
        by_cases hz : z = 0
        · obtain ⟨k1, k2, k3, _⟩ := ko hz
          subst hz
          have hwt : w ≠ t := by
            rintro rfl
            exact hne k3.symm
          have eT : (w.d == t.d && (w.s == t.s && (w.h == t.h && (w.c == t.c && (w.z == t.z && (w.o == t.o && (w.d64 == t.d64 && (w.ds == t.ds && w.o64 == t.o64)))))))) = false := by
            rw [Bool.eq_false_iff]
            intro hh
            simp only [Bool.and_eq_true, beq_iff_eq] at hh
            apply hwt
            cases w; cases t
            simp only [TailV.mk.injEq]
            exact hh
          repeat (first | (simp (maxSteps := 1000000) only [↓reduceIte, go_sem]) | (simp (maxSteps := 1000000) (disch := first | omega | assumption) only [BB]) | with_reducible refine Gst.now ?_ | with_reducible refine vawp_draw mixed (by kernel_rfl) ?_ | with_reducible first | refine lwV_out ?_ | refine lwV_out0 ?_ | refine lkC_out ?_ | refine And.intro (by omega) ?_ | fail)
          intro q3 hq3
          try simp (disch := first | omega | assumption) only [go_sem, hset_none, hdel_none] at hq3
          try simp (disch := first | omega | assumption) only [hset_none, hdel_none] at hq3
          repeat (first | (simp (maxSteps := 1000000) only [↓reduceIte, go_sem, eT]) | (simp (maxSteps := 1000000) (disch := first | omega | assumption) only [BB, eT]) | with_reducible refine Gst.now ?_ | with_reducible refine vawp_draw mixed (by kernel_rfl) ?_ | with_reducible first | refine lwV_out ?_ | refine lwV_out0 ?_ | refine lkC_out ?_ | refine And.intro (by omega) ?_ | fail)
          refine hq _ _ ?_
          repeat (first | (simp (maxSteps := 1000000) only [↓reduceIte, go_sem]) | (simp (maxSteps := 1000000) (disch := first | omega | assumption) only [BB]) | with_reducible refine Gst.now ?_ | with_reducible refine vawp_draw mixed (by kernel_rfl) ?_ | with_reducible first | refine lwV_out ?_ | refine lwV_out0 ?_ | refine lkC_out ?_ | refine And.intro (by omega) ?_ | fail)
          exact .now (hK _)
        · have hx := ke hz
          subst hx
          have e8 := eq_false hz
          repeat (first | (simp (maxSteps := 1000000) only [↓reduceIte, go_sem, e8]) | (simp (maxSteps := 1000000) (disch := first | omega | assumption) only [BB, e8]) | with_reducible refine Gst.now ?_ | with_reducible refine vawp_draw mixed (by kernel_rfl) ?_ | with_reducible first | refine lwV_out ?_ | refine lwV_out0 ?_ | refine lkC_out ?_ | refine And.intro (by omega) ?_ | fail)
          intro q3 hq3
          try simp (disch := first | omega | assumption) only [go_sem, hset_none, hdel_none] at hq3
          try simp (disch := first | omega | assumption) only [hset_none, hdel_none] at hq3
          repeat (first | (simp (maxSteps := 1000000) only [↓reduceIte, go_sem, e8]) | (simp (maxSteps := 1000000) (disch := first | omega | assumption) only [BB, e8]) | with_reducible refine Gst.now ?_ | with_reducible refine vawp_draw mixed (by kernel_rfl) ?_ | with_reducible first | refine lwV_out ?_ | refine lwV_out0 ?_ | refine lkC_out ?_ | refine And.intro (by omega) ?_ | fail)
          refine hq _ _ ?_
          repeat (first | (simp (maxSteps := 1000000) only [↓reduceIte, go_sem, e8]) | (simp (maxSteps := 1000000) (disch := first | omega | assumption) only [BB, e8]) | with_reducible refine Gst.now ?_ | with_reducible refine vawp_draw mixed (by kernel_rfl) ?_ | with_reducible first | refine lwV_out ?_ | refine lwV_out0 ?_ | refine lkC_out ?_ | refine And.intro (by omega) ?_ | fail)
          exact .now (hK _)
end
end Go.Proofs.Ytcdjaihaalaepaa.VTurn
