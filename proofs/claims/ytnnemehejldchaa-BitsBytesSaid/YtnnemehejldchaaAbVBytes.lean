/- bytes that are put behind bits are got as they are, over the machine of values. -/
import Derived.Test.YtnnemehejldchaaProg
import Derived.Test.YtnnemehejldchaaAbV9
import Derived.Test.YtnnemehejldchaaAbFacts
import Derived.Test.YtnnemehejldchaaAbBitsM
import Derived.Test.YtnnemehejldchaaAbVBits
import Derived.Test.YtnnemehejldchaaAbVBits2
import Derived.Test.YtnnemehejldchaaAbVBits3
import Derived.Test.YtnnemehejldchaaAbVBits4
import Derived.Test.YtnnemehejldchaaAbVBits5
import Derived.Test.YtnnemehejldchaaAbVLaw
import Derived.KernelRfl
import Derived.Laws.BitsAllLaws
set_option linter.unusedVariables false
set_option linter.unusedSimpArgs false
set_option maxRecDepth 100000
set_option maxHeartbeats 4000000
namespace Go.Proofs.Ytnnemehejldchaa.VBytes
open Go.RowKit Go.Proofs.AbM Go.Proofs.Ytnnemehejldchaa.Facts Go.Proofs.Ytnnemehejldchaa.BitsM Go.Proofs.Ytnnemehejldchaa.VBits Go.Proofs.Ytnnemehejldchaa.VBits2 Go.Proofs.Ytnnemehejldchaa.VBits3 Go.Proofs.Ytnnemehejldchaa.VBits4 Go.Proofs.Ytnnemehejldchaa.VBits5 Go.Proofs.Ytnnemehejldchaa.VLaw
attribute [local go_sem] vawp_skip_eq vawp_seq_eq vawp_region_eq vawp_cond_ite vawp_block_eq vawp_exit_eq vawp_ret_eq thenV_ret thenV_exit thenV_normal inBlockV_normal inBlockV_ret inBlockV_exit resKV_nil resKV_tmp resKV_cell oneV_one oneV_nil oneV_more initV_nil initV_cons updV_at evv_tmp evv_func evv_global evv_int evv_bool evv_str evv_snil evv_pnil evv_agg ofV3_int ofV3_bool ofV3_str ofV3_snil ofV3_pnil vok_tmp vok_func vok_global vok_int vok_bool vok_str vok_snil vok_pnil vok_agg cloV3_int cloV3_bool cloV3_str cloV3_snil cloV3_pnil voks_nil voks_cons scV_int scV_bool scV_str isBlV_b isBV_t isBV_f lwV_none lwV_sc lwV_agg lwV_tup lwV_isl lwV_own lwV_op lwV_ip lwV_fn lwV_junk vops_nil vops_n vops_s gsN_eq vop dstOk_some dstOk_none pkV_b blkV_set eRead_f eRead_t vLoad_op vLoad_ip vStore_op cells_sc cells_isl cells_own cells_op cells_ip cells_fn cells_agg parts_sc parts_isl parts_own parts_op parts_ip parts_fn parts_agg one_sc one_isl one_own one_op one_ip one_fn vField_op vField_ip ePart_f ePart_t vFieldV_agg vIx_isl vIx_own vIx_op vIx_ip vIxV_agg vIxV_str vLen_str vLen_isl vLen_own vLen_agg bndE_none bndE_int vSlice_isl vSlice_str vBin_add vBin_sub vBin_mul vBin_quo vBin_rem vBin_and vBin_or vBin_xor vBin_andNot vBin_eql vBin_neq vBin_lss vBin_leq vBin_gtr vBin_geq vBin_shr_i8 vBin_shl_i8 vBin_shr_i16 vBin_shl_i16 vBin_shr_i32 vBin_shl_i32 vBin_shr_i64 vBin_shl_i64 vBin_shr_u8 vBin_shl_u8 vBin_shr_u16 vBin_shl_u16 vBin_shr_u32 vBin_shl_u32 vBin_shr_u64 vBin_shl_u64 vBin_seq vBin_sne vBin_isln vBin_opn vBin_ipn ex_sc ex_sc2 ex_sc3 ex_tup calleeV wSc_pb wSc_pi wSc_not wSc_neg wSc_com wSc_min2 wSc_max2 vfold_nil vfold_one vfold_cons vfill_nil vfill_e eFill_s vBuild vBox vAlloc setV_map setV_zs setV_zn setV_s hset_hset eConv_ss vConv_e iv_eq ivI_eq ex_get ex_getI set_iv set_ivI okNil isNilV isSlV hdel_at hset_at List.map_toArray List.map_cons List.map_nil List.nil_append List.cons_append List.append_nil List.toList_toArray List.getElem?_toArray List.getElem?_cons_zero List.getElem?_cons_succ List.set_cons_zero List.set_cons_succ List.set_set List.length_cons List.length_nil List.length_set List.length_map List.all_cons List.all_nil List.drop_zero List.drop_succ_cons List.take_succ_cons List.take_zero List.flatMap_cons Bool.and_eq_true true_and and_true if_true if_false ite_true ite_false forall_eq' forall_eq exists_eq_left exists_eq_left' exists_eq' Value.bool.injEq Value.int.injEq Value.string.injEq Value.pointer.injEq Option.some.injEq AV.sc.injEq AV.op.injEq AV.ip.injEq AV.own.injEq AV.agg.injEq VB.cells.injEq VB.iter.injEq Prod.mk.injEq decide_eq_true_eq decide_eq_false_iff_not Nat.reduceEqDiff Nat.reduceLT Nat.reduceLeDiff Nat.reduceSub Nat.reduceBEq reduceIte Int.reduceLE Int.reduceLT Int.reduceToNat Int.reduceNeg Int.reduceEq Int.reduceNe Int.cast_ofNat_Int Nat.reduceMul Nat.reduceAdd Nat.reduceDiv Nat.reduceMod Nat.reducePow Int.reduceSub Int.reduceAdd Int.reduceMul Int.reducePow Option.isSome_some Option.isSome_none Option.bind_some Option.map_some Option.map_none Option.toList_some Option.toList_none true_or or_true or_false false_or Bool.not_true Bool.not_false Bool.not_eq_true Bool.false_eq_true Bool.not_not false_implies true_implies implies_true Nat.zero_add Nat.add_zero Nat.mul_one Bool.not_eq_true' Bool.true_eq_false Bool.and_true Bool.true_and Bool.and_false Bool.false_and Bool.or_true Bool.true_or Bool.or_false Bool.false_or Option.isNone_some Option.isNone_none Int.reduceBEq Int.reduceBNe beq_self_eq_true bne_self_eq_false beq_iff_eq bne_iff_ne ne_eq Int.toNat_natCast gt_lt ge_le c_add c_mul c_sub c_addn c_nadd c_muln c_nmul c_subn c_nsub c_divn c_modn c_div c_mod c_tdivn c_tmodn c_tdiv c_tmod c_pow c_nn c_beq c_beqn c_bne c_bnen wr64 wr32 wru64 wru32 wru16 wru8 c_if c_lt c_le c_eq c_ltn c_len c_nlt c_nle c_eqn m_drop m_take Nat.add_sub_cancel_left Nat.add_sub_cancel Int.reduceTMod Int.reduceTDiv Int.reduceMod Int.reduceDiv isC_some hset_ne hdel_ne hdel_hset hdel_hset_ne blkV_nset blkV_ndel hset_hdel
attribute [local go_sem high] vops_pk vops_mv vops_as vops_smv
attribute [local go_sem] ag3 sz3 zc3 ik3 ag4 sz4 zc4 ag5 sz5 zc5 ik5 ag9 sz9 zc9 iq9 ag22 sz22 el22 zc22 is22 ag25 sz25 el25 zc25 is25 ag27 sz27 zc27 bo27 ag28 sz28 zc28 ik28 ag30 sz30 zc30 bo30 ag32 sz32 zc32 pt32 ag49 sz49 zc49 pt49 ag54 sz54 zc54 bo54 of27_0 fd27_0 of27_1 fd27_1 of30_0 fd30_0 of30_1 fd30_1 of30_2 fd30_2 of30_3 fd30_3 of54_0 fd54_0 of54_1 fd54_1 eqb neb
section
variable {n : Nat} {h : VH} {K : AV → VH → Prop}
theorem bytes_v {l v more : Nat} {m : Int} {nl : Bool} {bs : List Nat} (hl : l = bs.length) (hbl : bs.length ≤ 140737488355328) (hb : ∀ b ∈ bs, b < 256) (hnl : nl = true → bs = []) (hv : v < 4294967296) (hmore : more < 4294967296) : VC Try.prog GL (n + 5) 6 [(.sc (.int .u32 ((v : Nat)))), (.sc (.int .i64 (m))), .isl nl l (bs.map (iv .u8)), (.sc (.int .u32 ((more : Nat))))] (fun _ => none) (fun v _ => v = (.sc (.bool (true)))) := by
  refine VC_go Try.func6 rfl (by decide) Try.ntmps6 Try.results6 rfl fun Q hq hn => ?_
  subst hl
  repeat (first | simp (disch := first | omega | assumption) only [↓reduceIte, go_sem] | with_reducible refine Gst.now ?_ | with_reducible refine vawp_draw mixed (by kernel_rfl) ?_ | with_reducible first | refine lwV_out ?_ | refine lwV_out0 ?_ | refine And.intro (by omega) ?_ | fail)
  with_reducible refine call_ok ?_
  refine alive_v fun h0 => ?_
  repeat (first | simp (disch := first | omega | assumption) only [↓reduceIte, go_sem] | with_reducible refine Gst.now ?_ | with_reducible refine vawp_draw mixed (by kernel_rfl) ?_ | with_reducible first | refine lwV_out ?_ | refine lwV_out0 ?_ | refine And.intro (by omega) ?_ | fail)
  split
  · repeat (first | simp (disch := first | omega | assumption) only [↓reduceIte, go_sem] | with_reducible refine Gst.now ?_ | with_reducible refine vawp_draw mixed (by kernel_rfl) ?_ | with_reducible first | refine lwV_out ?_ | refine lwV_out0 ?_ | refine And.intro (by omega) ?_ | fail)
    refine hq _ _ ?_
    repeat (first | simp (disch := first | omega | assumption) only [↓reduceIte, go_sem] | with_reducible refine Gst.now ?_ | with_reducible refine vawp_draw mixed (by kernel_rfl) ?_ | with_reducible first | refine lwV_out ?_ | refine lwV_out0 ?_ | refine And.intro (by omega) ?_ | fail)
    exact .now rfl
  · rename_i h100
    have en : bits .and .i64 m 31 = (((m % 32).toNat : Nat) : Int) := and31 _
    have hN : (m % 32).toNat < 32 := by omega
    generalize (m % 32).toNat = N at *
    have hsN : hs32 ((N : Nat) : Int) = N := by unfold hs32; omega
    have hs3 : hs32 32 = 32 := rfl
    repeat (first | simp (disch := first | omega | assumption) only [↓reduceIte, go_sem, en] | with_reducible refine Gst.now ?_ | with_reducible refine vawp_draw mixed (by kernel_rfl) ?_ | with_reducible first | refine lwV_out ?_ | refine lwV_out0 ?_ | refine And.intro (by omega) ?_ | fail)
    intro j hj
    have hw : WrH h0 j [] (hset h0 j (.cells 27 false [.isl true 0 [], (.sc (.int .i64 (0)))])) := ⟨hj, .inl ⟨rfl, rfl⟩⟩
    repeat (first | simp (disch := first | omega | assumption) only [↓reduceIte, go_sem] | with_reducible refine Gst.now ?_ | with_reducible refine vawp_draw mixed (by kernel_rfl) ?_ | with_reducible first | refine lwV_out ?_ | refine lwV_out0 ?_ | refine And.intro (by omega) ?_ | fail)
    with_reducible refine call_ok ?_
    refine put_v hw (fun x hx => by simp at hx) (by simp) hv fun h1 hw1 => ?_
    rw [List.nil_append, hsN] at hw1
    have hXl := lowBits_len v N
    have hXb := lowBits_bits v N
    generalize hX1 : lowBits v N = X1 at *
    repeat (first | simp (disch := first | omega | assumption) only [↓reduceIte, go_sem] | with_reducible refine Gst.now ?_ | with_reducible refine vawp_draw mixed (by kernel_rfl) ?_ | with_reducible first | refine lwV_out ?_ | refine lwV_out0 ?_ | refine And.intro (by omega) ?_ | fail)
    with_reducible refine call_ok ?_
    refine wbytes_v hw1 (by omega) hb (by omega) rfl fun h2 hw2 => ?_
    have hpl := padB_len X1
    have hpb := padB_bits hXb
    have hbl2 := bitsOf_len bs
    have hbb : IsBits (padB X1 ++ bitsOf bs) := IsBits.append hpb (bitsOf_bits bs)
    repeat (first | simp (disch := first | omega | assumption) only [↓reduceIte, go_sem] | with_reducible refine Gst.now ?_ | with_reducible refine vawp_draw mixed (by kernel_rfl) ?_ | with_reducible first | refine lwV_out ?_ | refine lwV_out0 ?_ | refine And.intro (by omega) ?_ | fail)
    with_reducible refine call_ok ?_
    refine put_v hw2 hbb (by rw [List.length_append]; omega) hmore fun h3 hw3 => ?_
    rw [hs3] at hw3
    have h32l := lowBits_len more 32
    have hXX : IsBits (padB X1 ++ bitsOf bs ++ lowBits more 32) := IsBits.append hbb (lowBits_bits more 32)
    have hlen : (padB X1 ++ bitsOf bs ++ lowBits more 32).length = 8 * ((N + 7) / 8) + 8 * bs.length + 32 := by rw [List.length_append, List.length_append, hpl, hbl2, h32l, hXl]
    have hpk : packB (padB X1 ++ bitsOf bs ++ lowBits more 32) = packB (padB X1) ++ (bs ++ packB (lowBits more 32)) := by
      rw [List.append_assoc, packB_append (q := (N + 7) / 8) _ _ (by rw [hpl, hXl]), packB_append (q := bs.length) _ _ hbl2, packB_bitsOf hb]
    have hpkl : (packB (padB X1)).length = (N + 7) / 8 := by rw [packB_len, hpl, hXl]; omega
    have hfull : padB (padB X1 ++ bitsOf bs ++ lowBits more 32) = padB X1 ++ bitsOf bs ++ lowBits more 32 := padB_full (q := (N + 7) / 8 + bs.length + 4) (by rw [hlen]; omega)
    have hbk := bitsOf_packB hXX
    have hb8 := packB_bytes hXX
    have hplen := packB_len (padB X1 ++ bitsOf bs ++ lowBits more 32)
    rw [hlen] at hplen
    have e1 : numB (((bitsOf (packB (padB X1 ++ bitsOf bs ++ lowBits more 32))).drop 0).take N) = v % 2 ^ N := by
      rw [hbk, hfull, List.drop_zero, List.append_assoc]
      unfold padB
      rw [List.append_assoc, List.take_append_of_le_length (by omega), List.take_of_length_le (by omega), ← hX1, numB_lowBits]
    have e2 : ((packB (padB X1 ++ bitsOf bs ++ lowBits more 32)).drop ((N + 7) / 8)).take bs.length = bs := by
      rw [hpk, ← hpkl, List.drop_left, List.take_left]
    have e3 : numB (((bitsOf (packB (padB X1 ++ bitsOf bs ++ lowBits more 32))).drop ((N + 7) / 8 * 8 + 8 * bs.length)).take 32) = more := by
      have ha : (N + 7) / 8 * 8 + 8 * bs.length = (padB X1 ++ bitsOf bs).length := by rw [List.length_append, hpl, hbl2, hXl]; omega
      rw [hbk, hfull, ha, List.drop_left, List.take_of_length_le (by omega), numB_lowBits]
      exact Nat.mod_eq_of_lt hmore
    generalize padB X1 ++ bitsOf bs ++ lowBits more 32 = X at *
    repeat (first | simp (disch := first | omega | assumption) only [↓reduceIte, go_sem] | with_reducible refine Gst.now ?_ | with_reducible refine vawp_draw mixed (by kernel_rfl) ?_ | with_reducible first | refine lwV_out ?_ | refine lwV_out0 ?_ | refine And.intro (by omega) ?_ | fail)
    with_reducible refine call_ok ?_
    refine len_v hw3 ?_
    rw [hlen]
    have c1 : (8 * ((N + 7) / 8) + 8 * bs.length + 32 != (N + 7) / 8 * 8 + 8 * bs.length + 32) = false := by
      rw [bne_eq_false_iff_eq]; omega
    repeat (first | simp (disch := first | omega | assumption) only [↓reduceIte, go_sem, c1] | with_reducible refine Gst.now ?_ | with_reducible refine vawp_draw mixed (by kernel_rfl) ?_ | with_reducible first | refine lwV_out ?_ | refine lwV_out0 ?_ | refine And.intro (by omega) ?_ | fail)
    with_reducible refine call_ok ?_
    refine done_v hw3 (by omega) fun nl2 hnl2 => ?_
    repeat (first | simp (disch := first | omega | assumption) only [↓reduceIte, go_sem] | with_reducible refine Gst.now ?_ | with_reducible refine vawp_draw mixed (by kernel_rfl) ?_ | with_reducible first | refine lwV_out ?_ | refine lwV_out0 ?_ | refine And.intro (by omega) ?_ | fail)
    with_reducible refine call_ok ?_
    refine len_v hw3 ?_
    rw [hlen, hplen]
    have c2 : ((8 * ((N + 7) / 8) + 8 * bs.length + 32 + 7) / 8 != (8 * ((N + 7) / 8) + 8 * bs.length + 32) / 8) = false := by
      rw [bne_eq_false_iff_eq]; omega
    repeat (first | simp (disch := first | omega | assumption) only [↓reduceIte, go_sem, c2] | with_reducible refine Gst.now ?_ | with_reducible refine vawp_draw mixed (by kernel_rfl) ?_ | with_reducible first | refine lwV_out ?_ | refine lwV_out0 ?_ | refine And.intro (by omega) ?_ | fail)
    with_reducible refine call_ok ?_
    refine done_v hw3 (by omega) fun nl3 hnl3 => ?_
    repeat (first | simp (disch := first | omega | assumption) only [↓reduceIte, go_sem] | with_reducible refine Gst.now ?_ | with_reducible refine vawp_draw mixed (by kernel_rfl) ?_ | with_reducible first | refine lwV_out ?_ | refine lwV_out0 ?_ | refine And.intro (by omega) ?_ | fail)
    with_reducible refine call_ok ?_
    refine bread_v rfl fun r hr => ?_
    repeat (first | simp (disch := first | omega | assumption) only [↓reduceIte, go_sem] | with_reducible refine Gst.now ?_ | with_reducible refine vawp_draw mixed (by kernel_rfl) ?_ | with_reducible first | refine lwV_out ?_ | refine lwV_out0 ?_ | refine And.intro (by omega) ?_ | fail)
    with_reducible refine call_ok ?_
    refine get_v (blkV_iff.2 (hset_at _ _ _)) hb8 (by omega) (by omega) (fun hh => absurd hh (by rw [hsN]; omega)) fun _ => ?_
    rw [hset_hset, hsN, e1, Nat.zero_add]
    repeat (first | simp (disch := first | omega | assumption) only [↓reduceIte, go_sem] | with_reducible refine Gst.now ?_ | with_reducible refine vawp_draw mixed (by kernel_rfl) ?_ | with_reducible first | refine lwV_out ?_ | refine lwV_out0 ?_ | refine And.intro (by omega) ?_ | fail)
    with_reducible refine call_ok ?_
    refine rbytes_v (blkV_iff.2 (hset_at _ _ _)) (by omega) (by omega) hnl3 (fun hh => absurd hh (by rw [Int.toNat_natCast]; omega)) fun _ => ?_
    rw [hset_hset, Int.toNat_natCast, e2]
    repeat (first | simp (disch := first | omega | assumption) only [↓reduceIte, go_sem] | with_reducible refine Gst.now ?_ | with_reducible refine vawp_draw mixed (by kernel_rfl) ?_ | with_reducible first | refine lwV_out ?_ | refine lwV_out0 ?_ | refine And.intro (by omega) ?_ | fail)
    with_reducible refine call_ok ?_
    refine get_v (blkV_iff.2 (hset_at _ _ _)) hb8 (by omega) (by omega) (fun hh => absurd hh (by rw [hs3]; omega)) fun _ => ?_
    rw [hset_hset, hs3, e3]
    repeat (first | simp (disch := first | omega | assumption) only [↓reduceIte, go_sem] | with_reducible refine Gst.now ?_ | with_reducible refine vawp_draw mixed (by kernel_rfl) ?_ | with_reducible first | refine lwV_out ?_ | refine lwV_out0 ?_ | refine And.intro (by omega) ?_ | fail)
    with_reducible refine call_ok ?_
    refine rbit_v (blkV_iff.2 (hset_at _ _ _)) hb8 (by omega) (by omega) (fun _ => ?_) (fun hh => absurd hh (by omega))
    have hp : 2 ^ N ≤ 2147483648 := by
      have : 2 ^ N ≤ 2 ^ 31 := Nat.pow_le_pow_right (by omega) (by omega)
      exact this
    have hp0 : 0 < 2 ^ N := Nat.pow_pos (by omega)
    have em : bits .and .u32 (v : Int) ((1 * 2 ^ N - 1 : Nat) : Int) = ((v % 2 ^ N : Nat) : Int) := by rw [Nat.one_mul]; exact mask_u32 hv hN
    repeat (first | simp (disch := first | omega | assumption) only [↓reduceIte, go_sem, em] | with_reducible refine Gst.now ?_ | with_reducible refine vawp_draw mixed (by kernel_rfl) ?_ | with_reducible first | refine lwV_out ?_ | refine lwV_out0 ?_ | refine And.intro (by omega) ?_ | fail)
    with_reducible refine call_ok ?_
    refine same_v rfl rfl (by omega) (by omega) ?_
    rw [decide_eq_true rfl]
    repeat (first | simp (disch := first | omega | assumption) only [↓reduceIte, go_sem] | with_reducible refine Gst.now ?_ | with_reducible refine vawp_draw mixed (by kernel_rfl) ?_ | with_reducible first | refine lwV_out ?_ | refine lwV_out0 ?_ | refine And.intro (by omega) ?_ | fail)
    refine hq _ _ ?_
    repeat (first | simp (disch := first | omega | assumption) only [↓reduceIte, go_sem] | with_reducible refine Gst.now ?_ | with_reducible refine vawp_draw mixed (by kernel_rfl) ?_ | with_reducible first | refine lwV_out ?_ | refine lwV_out0 ?_ | refine And.intro (by omega) ?_ | fail)
    exact .now rfl
end
end Go.Proofs.Ytnnemehejldchaa.VBytes
