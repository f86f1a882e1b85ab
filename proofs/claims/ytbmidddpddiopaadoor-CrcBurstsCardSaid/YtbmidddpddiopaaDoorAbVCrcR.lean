/- the document's answer for package crc, over the machine of values; crc.Blocks. -/
import Derived.Test.YtbmidddpddiopaaDoorProg
import Derived.Test.YtbmidddpddiopaaDoorAbV17
import Derived.Test.YtbmidddpddiopaaDoorAbFacts
import Derived.Test.YtbmidddpddiopaaDoorAbVCrcP
import Derived.Test.YtbmidddpddiopaaDoorAbVG
import Derived.Test.YtbmidddpddiopaaDoorAbVCrc
import Derived.KernelRfl
import Derived.Laws.BitsAllLaws
set_option linter.unusedVariables false
set_option linter.unusedSimpArgs false
set_option maxRecDepth 100000
set_option maxHeartbeats 4000000
namespace Go.Proofs.YtbmidddpddiopaaDoor.VCrcR
open Go.RowKit Go.Proofs.AbM Go.Proofs.YtbmidddpddiopaaDoor.Facts Go.Proofs.YtbmidddpddiopaaDoor.VCrcP Go.Proofs.YtbmidddpddiopaaDoor.VG Go.Proofs.YtbmidddpddiopaaDoor.VCrc
attribute [local go_sem] vawp_skip_eq vawp_seq_eq vawp_region_eq vawp_cond_g vawp_block_eq vawp_exit_eq vawp_ret_eq thenV_ret thenV_exit thenV_normal inBlockV_normal inBlockV_ret inBlockV_exit resKV_nil resKV_tmp resKV_cell oneV_one oneV_nil oneV_more initV_nil initV_cons updV_at evv_tmp evv_func evv_global evv_int evv_bool evv_str evv_snil evv_pnil evv_agg ofV3_int ofV3_bool ofV3_str ofV3_snil ofV3_pnil vok_tmp vok_func vok_global vok_int vok_bool vok_str vok_snil vok_pnil vok_agg cloV3_int cloV3_bool cloV3_str cloV3_snil cloV3_pnil voks_nil voks_cons scV_int scV_bool scV_str isBlV_b isBV_t isBV_f lwV_none lwV_sc lwV_agg lwV_tup lwV_isl lwV_own lwV_op lwV_ip lwV_fn lwV_junk vops_nil vops_n vops_s gsN_eq vop dstOk_some dstOk_none pkV_b blkV_set eRead_f eRead_t vLoad_op vLoad_ip vStore_op cells_sc cells_isl cells_own cells_op cells_ip cells_fn cells_agg parts_sc parts_isl parts_own parts_op parts_ip parts_fn parts_agg one_sc one_isl one_own one_op one_ip one_fn vField_op vField_ip ePart_f ePart_t vFieldV_agg vIx_isl vIx_own vIx_op vIx_ip vIxV_agg vIxV_str vLen_str vLen_isl vLen_own vLen_agg bndE_none bndE_int vSlice_isl vSlice_str vBin_add vBin_sub vBin_mul vBin_quo vBin_rem vBin_and vBin_or vBin_xor vBin_andNot vBin_eql vBin_neq vBin_lss vBin_leq vBin_gtr vBin_geq vBin_shr_i8 vBin_shl_i8 vBin_shr_i16 vBin_shl_i16 vBin_shr_i32 vBin_shl_i32 vBin_shr_i64 vBin_shl_i64 vBin_shr_u8 vBin_shl_u8 vBin_shr_u16 vBin_shl_u16 vBin_shr_u32 vBin_shl_u32 vBin_shr_u64 vBin_shl_u64 vBin_seq vBin_sne vBin_isln vBin_opn vBin_ipn ex_sc ex_sc2 ex_sc3 ex_tup calleeV wSc_pb wSc_pi wSc_not wSc_neg wSc_com wSc_min2 wSc_max2 vfold_nil vfold_one vfold_cons vfill_nil vfill_e eFill_s vBuild vBox vAlloc setV_map setV_zs setV_zn setV_s hset_hset eConv_ss vConv_e iv_eq ivI_eq ex_get ex_getI set_iv set_ivI okNil isNilV isSlV hdel_at hset_at List.map_toArray List.map_cons List.map_nil List.nil_append List.cons_append List.append_nil List.toList_toArray List.getElem?_toArray List.getElem_toArray List.getElem_cons_zero List.getElem_cons_succ List.getElem?_cons_zero List.getElem?_cons_succ List.set_cons_zero List.set_cons_succ List.set_set List.length_cons List.length_nil List.length_set List.length_map List.all_cons List.all_nil List.drop_zero List.drop_succ_cons List.take_succ_cons List.take_zero List.flatMap_cons Bool.and_eq_true true_and and_true if_true if_false ite_true ite_false forall_eq' forall_eq exists_eq_left exists_eq_left' exists_eq' Value.bool.injEq Value.int.injEq Value.string.injEq Value.pointer.injEq Option.some.injEq AV.sc.injEq AV.op.injEq AV.ip.injEq AV.own.injEq AV.agg.injEq VB.cells.injEq VB.iter.injEq Prod.mk.injEq decide_eq_true_eq decide_eq_false_iff_not Nat.reduceEqDiff Nat.reduceLT Nat.reduceLeDiff Nat.reduceSub Nat.reduceBEq reduceIte Int.reduceLE Int.reduceLT Int.reduceToNat Int.reduceNeg Int.reduceEq Int.reduceNe Int.cast_ofNat_Int Nat.reduceMul Nat.reduceAdd Nat.reduceDiv Nat.reduceMod Nat.reducePow Int.reduceSub Int.reduceAdd Int.reduceMul Int.reducePow Option.isSome_some Option.isSome_none Option.bind_some Option.map_some Option.map_none Option.toList_some Option.toList_none true_or or_true or_false false_or Bool.not_true Bool.not_false Bool.not_eq_true Bool.false_eq_true Bool.not_not false_implies true_implies implies_true Nat.zero_add Nat.add_zero Nat.mul_one Bool.not_eq_true' Bool.true_eq_false Bool.and_true Bool.true_and Bool.and_false Bool.false_and Bool.or_true Bool.true_or Bool.or_false Bool.false_or Option.isNone_some Option.isNone_none Int.reduceBEq Int.reduceBNe beq_self_eq_true bne_self_eq_false beq_iff_eq not_false_eq_true not_true_eq_false Decidable.not_not bne_iff_ne ne_eq Int.toNat_natCast gt_lt ge_le c_add c_mul c_sub c_addn c_nadd c_muln c_nmul c_subn c_nsub c_divn c_modn c_div c_mod c_tdivn c_tmodn c_tdiv c_tmod c_pow c_nn c_beq c_beqn c_bne c_bnen wr64 wr32 wru64 wru32 wru16 wru8 c_if c_if1 c_if2 c_lt c_le c_eq c_ltn c_len c_nlt c_nle c_eqn m_drop m_take Nat.add_sub_cancel_left Nat.add_sub_cancel Int.reduceTMod Int.reduceTDiv Int.reduceMod Int.reduceDiv isC_some hset_ne hdel_ne hdel_hset hdel_hset_ne blkV_nset blkV_ndel hset_hdel gV_t gV_f isGdV_b isGdV_u isBV_u isGdV_g isBV_gt isBV_gf decide_true decide_false Bool.or_eq_false_iff eq_self Nat.lt_irrefl Int.lt_irrefl Nat.le_refl Int.le_refl
attribute [local go_sem high] vops_pk vops_mv vops_as vops_smv pk_and pk_or pk_gand pk_gor pk_orn pk_gorn
attribute [local go_sem] ag3 sz3 zc3 ik3 ag4 sz4 zc4 ag5 sz5 zc5 ik5 ag22 sz22 zc22 ik22 ag23 sz23 el23 zc23 is23 ag28 sz28 el28 zc28 is28 ag32 sz32 el32 zc32 is32 ag41 sz41 ea41 an41 zc41 bo41 eqb neb
section
variable {n : Nat} {h : VH} {K : AV → VH → Prop}
theorem mod2_w (x : W32) : x.toNat % 2 = if x.getLsbD 0 then 1 else 0 := by
  rw [lsb_mod]
  by_cases h : x.toNat % 2 = 1
  · simp [h]
  · simp [h]; omega
theorem rupdate_v {nl : Bool} {l : Nat} {s : W32} {bs : List Nat} (hl : l = bs.length) (h8 : ∀ b ∈ bs, b < 256) (hb : bs.length ≤ 140737488355328) (hK : K (.sc (.int .u32 (((crcU s bs).toNat : Nat)))) h) : VC Tryd.prog GL (n + 1) 10 [(.sc (.int .u32 ((s.toNat : Nat)))), .isl nl l (bs.map (iv .u8))] h K := by
  refine VC_go Tryd.func10 rfl (by decide) Tryd.ntmps10 Tryd.results10 rfl fun Q hq hn => ?_
  subst hl
  have e1 := com_w s
  repeat (first | (simp (maxSteps := 1000000) only [↓reduceIte, go_sem, e1]) | (simp (maxSteps := 1000000) (disch := first | omega | assumption) only [BB, e1]) | with_reducible refine Gst.now ?_ | with_reducible refine vawp_draw mixed (by kernel_rfl) ?_ | with_reducible first | refine lwV_out ?_ | refine lwV_out0 ?_ | refine lkC_out ?_ | refine And.intro (by omega) ?_ | fail)
  refine vawp_loop (k := bs.length) (fun k ρ h1 => ∃ i : Nat, k + i = bs.length ∧ ρ 1 = .isl nl bs.length (bs.map (iv .u8)) ∧ ρ 6 = (.sc (.int .i64 (i))) ∧ ρ 5 = (.sc (.int .u32 (((reg (~~~ s) (bs.take i)).toNat : Nat)))) ∧ h1 = h) ?_ ?_
  · refine ⟨0, rfl, ?_⟩
    repeat (first | (simp (maxSteps := 1000000) only [↓reduceIte, go_sem, e1]) | (simp (maxSteps := 1000000) (disch := first | omega | assumption) only [BB, e1]) | with_reducible refine Gst.now ?_ | with_reducible refine vawp_draw mixed (by kernel_rfl) ?_ | with_reducible first | refine lwV_out ?_ | refine lwV_out0 ?_ | refine lkC_out ?_ | refine And.intro (by omega) ?_ | fail)
    rfl
  · rintro k ρ h1 ⟨i, hki, g1, g6, g5, rfl⟩
    repeat (first | (simp (maxSteps := 1000000) only [↓reduceIte, go_sem, e1, g1, g6, g5]) | (simp (maxSteps := 1000000) (disch := first | omega | assumption) only [BB, e1, g1, g6, g5]) | with_reducible refine Gst.now ?_ | with_reducible refine vawp_draw mixed (by kernel_rfl) ?_ | with_reducible first | refine lwV_out ?_ | refine lwV_out0 ?_ | refine lkC_out ?_ | refine And.intro (by omega) ?_ | fail)
    split
    · have hc : bs.getD i 0 < 256 := getD_lt h8 (by omega) _
      have e2 := byte_w (reg (~~~ s) (bs.take i)) hc
      have e3 : reg (~~~ s) (bs.take (i + 1)) = It 8 (reg (~~~ s) (bs.take i) ^^^ BitVec.ofNat 32 (bs.getD i 0)) := by
        rw [reg_take (by omega), ← N4_It, ← N4_It, ← It_add]
      generalize reg (~~~ s) (bs.take i) = r at *
      generalize r ^^^ BitVec.ofNat 32 (bs.getD i 0) = q at *
      repeat (first | (simp (maxSteps := 1000000) only [↓reduceIte, go_sem, e1, g1, g6, g5, e2, e3]) | (simp (maxSteps := 1000000) (disch := first | omega | assumption) only [BB, e1, g1, g6, g5, e2, e3]) | with_reducible refine Gst.now ?_ | with_reducible refine vawp_draw mixed (by kernel_rfl) ?_ | with_reducible first | refine lwV_out ?_ | refine lwV_out0 ?_ | refine lkC_out ?_ | refine And.intro (by omega) ?_ | fail)
      refine vawp_loop (k := 8) (fun k2 ρ h2 => ∃ j : Nat, k2 + j = 8 ∧ ρ 1 = .isl nl bs.length (bs.map (iv .u8)) ∧ ρ 6 = (.sc (.int .i64 (i))) ∧ ρ 7 = (.sc (.int .i64 (j))) ∧ ρ 5 = (.sc (.int .u32 (((It j q).toNat : Nat)))) ∧ h2 = h1) ?_ ?_
      · refine ⟨0, rfl, ?_⟩
        repeat (first | (simp (maxSteps := 1000000) only [↓reduceIte, go_sem, e1, g1, g6, g5, e2, e3]) | (simp (maxSteps := 1000000) (disch := first | omega | assumption) only [BB, e1, g1, g6, g5, e2, e3]) | with_reducible refine Gst.now ?_ | with_reducible refine vawp_draw mixed (by kernel_rfl) ?_ | with_reducible first | refine lwV_out ?_ | refine lwV_out0 ?_ | refine lkC_out ?_ | refine And.intro (by omega) ?_ | fail)
        rfl
      · rintro k2 ρ h2 ⟨j, hkj, g1, g6, g7, g5, rfl⟩
        have e4 : It (j + 1) q = Sb (It j q) := rfl
        have e5 := mod2_w (It j q)
        by_cases hj : j < 8
        · have e6 := eq_true hj
          cases h2 : (It j q).getLsbD 0 with
          | true =>
            have e7 := sb_t h2
            rw [h2, if_pos rfl] at e5
            repeat (first | (simp (maxSteps := 1000000) only [↓reduceIte, go_sem, e1, g1, g6, g5, e2, e3, g7, e4, e5, e6, e7]) | (simp (maxSteps := 1000000) (disch := first | omega | assumption) only [BB, e1, g1, g6, g5, e2, e3, g7, e4, e5, e6, e7]) | with_reducible refine Gst.now ?_ | with_reducible refine vawp_draw mixed (by kernel_rfl) ?_ | with_reducible first | refine lwV_out ?_ | refine lwV_out0 ?_ | refine lkC_out ?_ | refine And.intro (by omega) ?_ | fail)
            refine ⟨k2 - 1, by omega, j + 1, by omega, ?_⟩
            repeat (first | (simp (maxSteps := 1000000) only [↓reduceIte, go_sem, e1, g1, g6, g5, e2, e3, g7, e4, e5, e6, e7]) | (simp (maxSteps := 1000000) (disch := first | omega | assumption) only [BB, e1, g1, g6, g5, e2, e3, g7, e4, e5, e6, e7]) | with_reducible refine Gst.now ?_ | with_reducible refine vawp_draw mixed (by kernel_rfl) ?_ | with_reducible first | refine lwV_out ?_ | refine lwV_out0 ?_ | refine lkC_out ?_ | refine And.intro (by omega) ?_ | fail)
          | false =>
            have e7 := sb_f h2
            rw [h2, if_neg (by simp)] at e5
            repeat (first | (simp (maxSteps := 1000000) only [↓reduceIte, go_sem, e1, g1, g6, g5, e2, e3, g7, e4, e5, e6, e7]) | (simp (maxSteps := 1000000) (disch := first | omega | assumption) only [BB, e1, g1, g6, g5, e2, e3, g7, e4, e5, e6, e7]) | with_reducible refine Gst.now ?_ | with_reducible refine vawp_draw mixed (by kernel_rfl) ?_ | with_reducible first | refine lwV_out ?_ | refine lwV_out0 ?_ | refine lkC_out ?_ | refine And.intro (by omega) ?_ | fail)
            refine ⟨k2 - 1, by omega, j + 1, by omega, ?_⟩
            repeat (first | (simp (maxSteps := 1000000) only [↓reduceIte, go_sem, e1, g1, g6, g5, e2, e3, g7, e4, e5, e6, e7]) | (simp (maxSteps := 1000000) (disch := first | omega | assumption) only [BB, e1, g1, g6, g5, e2, e3, g7, e4, e5, e6, e7]) | with_reducible refine Gst.now ?_ | with_reducible refine vawp_draw mixed (by kernel_rfl) ?_ | with_reducible first | refine lwV_out ?_ | refine lwV_out0 ?_ | refine lkC_out ?_ | refine And.intro (by omega) ?_ | fail)
        · obtain rfl : j = 8 := by omega
          repeat (first | (simp (maxSteps := 1000000) only [↓reduceIte, go_sem, e1, g1, g6, g5, e2, e3, g7]) | (simp (maxSteps := 1000000) (disch := first | omega | assumption) only [BB, e1, g1, g6, g5, e2, e3, g7]) | with_reducible refine Gst.now ?_ | with_reducible refine vawp_draw mixed (by kernel_rfl) ?_ | with_reducible first | refine lwV_out ?_ | refine lwV_out0 ?_ | refine lkC_out ?_ | refine And.intro (by omega) ?_ | fail)
          refine ⟨k - 1, by omega, i + 1, by omega, ?_⟩
          repeat (first | (simp (maxSteps := 1000000) only [↓reduceIte, go_sem, e1, g1, g6, g5, e2, e3, g7]) | (simp (maxSteps := 1000000) (disch := first | omega | assumption) only [BB, e1, g1, g6, g5, e2, e3, g7]) | with_reducible refine Gst.now ?_ | with_reducible refine vawp_draw mixed (by kernel_rfl) ?_ | with_reducible first | refine lwV_out ?_ | refine lwV_out0 ?_ | refine lkC_out ?_ | refine And.intro (by omega) ?_ | fail)
    · have e2 := com_w (reg (~~~ s) bs)
      have e3 : bs.take i = bs := List.take_of_length_le (by omega)
      repeat (first | (simp (maxSteps := 1000000) only [↓reduceIte, go_sem, e1, g1, g6, g5, e2, e3]) | (simp (maxSteps := 1000000) (disch := first | omega | assumption) only [BB, e1, g1, g6, g5, e2, e3]) | with_reducible refine Gst.now ?_ | with_reducible refine vawp_draw mixed (by kernel_rfl) ?_ | with_reducible first | refine lwV_out ?_ | refine lwV_out0 ?_ | refine lkC_out ?_ | refine And.intro (by omega) ?_ | fail)
      refine hq _ _ ?_
      repeat (first | (simp (maxSteps := 1000000) only [↓reduceIte, go_sem, e1, g1, g6, g5, e2, e3]) | (simp (maxSteps := 1000000) (disch := first | omega | assumption) only [BB, e1, g1, g6, g5, e2, e3]) | with_reducible refine Gst.now ?_ | with_reducible refine vawp_draw mixed (by kernel_rfl) ?_ | with_reducible first | refine lwV_out ?_ | refine lwV_out0 ?_ | refine lkC_out ?_ | refine And.intro (by omega) ?_ | fail)
      exact .now hK
theorem rsum_v {nl : Bool} {l : Nat} {bs : List Nat} (hl : l = bs.length) (h8 : ∀ b ∈ bs, b < 256) (hb : bs.length ≤ 140737488355328) (hK : K (.sc (.int .u32 (((crcU 0#32 bs).toNat : Nat)))) h) : VC Tryd.prog GL (n + 2) 12 [.isl nl l (bs.map (iv .u8))] h K := by
  refine VC_go Tryd.func12 rfl (by decide) Tryd.ntmps12 Tryd.results12 rfl fun Q hq hn => ?_
  repeat (first | (simp (maxSteps := 1000000) only [↓reduceIte, go_sem]) | (simp (maxSteps := 1000000) (disch := first | omega | assumption) only [BB]) | with_reducible refine Gst.now ?_ | with_reducible refine vawp_draw mixed (by kernel_rfl) ?_ | with_reducible first | refine lwV_out ?_ | refine lwV_out0 ?_ | refine lkC_out ?_ | refine And.intro (by omega) ?_ | fail)
  with_reducible refine call_ok ?_
  refine rupdate_v (s := 0#32) hl h8 hb ?_
  repeat (first | (simp (maxSteps := 1000000) only [↓reduceIte, go_sem]) | (simp (maxSteps := 1000000) (disch := first | omega | assumption) only [BB]) | with_reducible refine Gst.now ?_ | with_reducible refine vawp_draw mixed (by kernel_rfl) ?_ | with_reducible first | refine lwV_out ?_ | refine lwV_out0 ?_ | refine lkC_out ?_ | refine And.intro (by omega) ?_ | fail)
  refine hq _ _ ?_
  repeat (first | (simp (maxSteps := 1000000) only [↓reduceIte, go_sem]) | (simp (maxSteps := 1000000) (disch := first | omega | assumption) only [BB]) | with_reducible refine Gst.now ?_ | with_reducible refine vawp_draw mixed (by kernel_rfl) ?_ | with_reducible first | refine lwV_out ?_ | refine lwV_out0 ?_ | refine lkC_out ?_ | refine And.intro (by omega) ?_ | fail)
  exact .now hK
theorem take_snocN {xs : List Nat} {i : Nat} (hi : i < xs.length) : xs.take (i + 1) = xs.take i ++ [xs.getD i 0] := by
  rw [List.take_succ_eq_append_getElem hi, List.getD_eq_getElem?_getD, List.getElem?_eq_getElem hi]; rfl
theorem rsame_v {nl nl2 : Bool} {l l2 : Nat} {xs ys : List Nat} (h1 : l = xs.length) (h2 : l2 = ys.length) (hb : xs.length ≤ 140737488355328) (hb2 : ys.length ≤ 140737488355328) (hK : K (.sc (.bool (decide (xs = ys)))) h) : VC Tryd.prog GL (n + 1) 13 [.isl nl l (xs.map (iv .u32)), .isl nl2 l2 (ys.map (iv .u32))] h K := by
  refine VC_go Tryd.func13 rfl (by decide) Tryd.ntmps13 Tryd.results13 rfl fun Q hq hn => ?_
  subst h1 h2
  repeat (first | (simp (maxSteps := 1000000) only [↓reduceIte, go_sem]) | (simp (maxSteps := 1000000) (disch := first | omega | assumption) only [BB]) | with_reducible refine Gst.now ?_ | with_reducible refine vawp_draw mixed (by kernel_rfl) ?_ | with_reducible first | refine lwV_out ?_ | refine lwV_out0 ?_ | refine lkC_out ?_ | refine And.intro (by omega) ?_ | fail)
  split
  · rename_i hne
    have e : decide (xs = ys) = false := decide_eq_false (by rintro rfl; exact hne rfl)
    rw [e] at hK
    repeat (first | (simp (maxSteps := 1000000) only [↓reduceIte, go_sem]) | (simp (maxSteps := 1000000) (disch := first | omega | assumption) only [BB]) | with_reducible refine Gst.now ?_ | with_reducible refine vawp_draw mixed (by kernel_rfl) ?_ | with_reducible first | refine lwV_out ?_ | refine lwV_out0 ?_ | refine lkC_out ?_ | refine And.intro (by omega) ?_ | fail)
    refine hq _ _ ?_
    repeat (first | (simp (maxSteps := 1000000) only [↓reduceIte, go_sem]) | (simp (maxSteps := 1000000) (disch := first | omega | assumption) only [BB]) | with_reducible refine Gst.now ?_ | with_reducible refine vawp_draw mixed (by kernel_rfl) ?_ | with_reducible first | refine lwV_out ?_ | refine lwV_out0 ?_ | refine lkC_out ?_ | refine And.intro (by omega) ?_ | fail)
    exact .now hK
  · rename_i he
    simp only [Bool.not_eq_true, Decidable.not_not, ne_eq] at he
    have he : xs.length = ys.length := by omega
    repeat (first | (simp (maxSteps := 1000000) only [↓reduceIte, go_sem]) | (simp (maxSteps := 1000000) (disch := first | omega | assumption) only [BB]) | with_reducible refine Gst.now ?_ | with_reducible refine vawp_draw mixed (by kernel_rfl) ?_ | with_reducible first | refine lwV_out ?_ | refine lwV_out0 ?_ | refine lkC_out ?_ | refine And.intro (by omega) ?_ | fail)
    refine vawp_loop (k := xs.length) (fun k ρ h1 => ∃ i : Nat, k + i = xs.length ∧ ρ 0 = .isl nl xs.length (xs.map (iv .u32)) ∧ ρ 1 = .isl nl2 ys.length (ys.map (iv .u32)) ∧ ρ 5 = (.sc (.int .i64 (i))) ∧ xs.take i = ys.take i ∧ h1 = h) ?_ ?_
    · refine ⟨0, rfl, ?_⟩
      repeat (first | (simp (maxSteps := 1000000) only [↓reduceIte, go_sem]) | (simp (maxSteps := 1000000) (disch := first | omega | assumption) only [BB]) | with_reducible refine Gst.now ?_ | with_reducible refine vawp_draw mixed (by kernel_rfl) ?_ | with_reducible first | refine lwV_out ?_ | refine lwV_out0 ?_ | refine lkC_out ?_ | refine And.intro (by omega) ?_ | fail)
    · rintro k ρ h1 ⟨i, hki, g0, g1, g5, ht, rfl⟩
      repeat (first | (simp (maxSteps := 1000000) only [↓reduceIte, go_sem, g0, g1, g5]) | (simp (maxSteps := 1000000) (disch := first | omega | assumption) only [BB, g0, g1, g5]) | with_reducible refine Gst.now ?_ | with_reducible refine vawp_draw mixed (by kernel_rfl) ?_ | with_reducible first | refine lwV_out ?_ | refine lwV_out0 ?_ | refine lkC_out ?_ | refine And.intro (by omega) ?_ | fail)
      split
      · repeat (first | (simp (maxSteps := 1000000) only [↓reduceIte, go_sem, g0, g1, g5]) | (simp (maxSteps := 1000000) (disch := first | omega | assumption) only [BB, g0, g1, g5]) | with_reducible refine Gst.now ?_ | with_reducible refine vawp_draw mixed (by kernel_rfl) ?_ | with_reducible first | refine lwV_out ?_ | refine lwV_out0 ?_ | refine lkC_out ?_ | refine And.intro (by omega) ?_ | fail)
        split
        · rename_i hne
          have e : decide (xs = ys) = false := decide_eq_false (by rintro rfl; exact hne rfl)
          rw [e] at hK
          repeat (first | (simp (maxSteps := 1000000) only [↓reduceIte, go_sem, g0, g1, g5]) | (simp (maxSteps := 1000000) (disch := first | omega | assumption) only [BB, g0, g1, g5]) | with_reducible refine Gst.now ?_ | with_reducible refine vawp_draw mixed (by kernel_rfl) ?_ | with_reducible first | refine lwV_out ?_ | refine lwV_out0 ?_ | refine lkC_out ?_ | refine And.intro (by omega) ?_ | fail)
          refine hq _ _ ?_
          repeat (first | (simp (maxSteps := 1000000) only [↓reduceIte, go_sem, g0, g1, g5]) | (simp (maxSteps := 1000000) (disch := first | omega | assumption) only [BB, g0, g1, g5]) | with_reducible refine Gst.now ?_ | with_reducible refine vawp_draw mixed (by kernel_rfl) ?_ | with_reducible first | refine lwV_out ?_ | refine lwV_out0 ?_ | refine lkC_out ?_ | refine And.intro (by omega) ?_ | fail)
          exact .now hK
        · rename_i heq
          simp only [Bool.not_eq_true, Decidable.not_not, ne_eq] at heq
          repeat (first | (simp (maxSteps := 1000000) only [↓reduceIte, go_sem, g0, g1, g5]) | (simp (maxSteps := 1000000) (disch := first | omega | assumption) only [BB, g0, g1, g5]) | with_reducible refine Gst.now ?_ | with_reducible refine vawp_draw mixed (by kernel_rfl) ?_ | with_reducible first | refine lwV_out ?_ | refine lwV_out0 ?_ | refine lkC_out ?_ | refine And.intro (by omega) ?_ | fail)
          refine ⟨k - 1, by omega, i + 1, by omega, ?_⟩
          repeat (first | (simp (maxSteps := 1000000) only [↓reduceIte, go_sem, g0, g1, g5]) | (simp (maxSteps := 1000000) (disch := first | omega | assumption) only [BB, g0, g1, g5]) | with_reducible refine Gst.now ?_ | with_reducible refine vawp_draw mixed (by kernel_rfl) ?_ | with_reducible first | refine lwV_out ?_ | refine lwV_out0 ?_ | refine lkC_out ?_ | refine And.intro (by omega) ?_ | fail)
          rw [take_snocN (by omega), take_snocN (by omega), ht]
          congr 2
      · repeat (first | (simp (maxSteps := 1000000) only [↓reduceIte, go_sem, g0, g1, g5]) | (simp (maxSteps := 1000000) (disch := first | omega | assumption) only [BB, g0, g1, g5]) | with_reducible refine Gst.now ?_ | with_reducible refine vawp_draw mixed (by kernel_rfl) ?_ | with_reducible first | refine lwV_out ?_ | refine lwV_out0 ?_ | refine lkC_out ?_ | refine And.intro (by omega) ?_ | fail)
        refine hq _ _ ?_
        repeat (first | (simp (maxSteps := 1000000) only [↓reduceIte, go_sem, g0, g1, g5]) | (simp (maxSteps := 1000000) (disch := first | omega | assumption) only [BB, g0, g1, g5]) | with_reducible refine Gst.now ?_ | with_reducible refine vawp_draw mixed (by kernel_rfl) ?_ | with_reducible first | refine lwV_out ?_ | refine lwV_out0 ?_ | refine lkC_out ?_ | refine And.intro (by omega) ?_ | fail)
        have e : decide (xs = ys) = true := decide_eq_true (by
          have hi : i = xs.length := by omega
          subst hi
          rw [List.take_length, he, List.take_length] at ht
          exact ht)
        rw [e] at hK
        exact .now hK
end
end Go.Proofs.YtbmidddpddiopaaDoor.VCrcR
