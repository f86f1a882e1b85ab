/- package bits over the machine of values: the reader. -/
import Derived.Test.YtncicgfbnjneeaaProg
import Derived.Test.YtncicgfbnjneeaaAbV16
import Derived.Test.YtncicgfbnjneeaaAbFacts
import Derived.Test.YtncicgfbnjneeaaAbBitsM
import Derived.KernelRfl
import Derived.Laws.BitsAllLaws
set_option linter.unusedVariables false
set_option linter.unusedSimpArgs false
set_option maxRecDepth 100000
set_option maxHeartbeats 4000000
namespace Go.Proofs.Ytncicgfbnjneeaa.VBits
open Go.RowKit Go.Proofs.AbM Go.Proofs.Ytncicgfbnjneeaa.Facts Go.Proofs.Ytncicgfbnjneeaa.BitsM
attribute [local go_sem] vawp_skip_eq vawp_seq_eq vawp_region_eq vawp_cond_g vawp_block_eq vawp_exit_eq vawp_ret_eq thenV_ret thenV_exit thenV_normal inBlockV_normal inBlockV_ret inBlockV_exit resKV_nil resKV_tmp resKV_cell oneV_one oneV_nil oneV_more initV_nil initV_cons updV_at evv_tmp evv_func evv_global evv_int evv_bool evv_str evv_snil evv_pnil evv_agg ofV3_int ofV3_bool ofV3_str ofV3_snil ofV3_pnil vok_tmp vok_func vok_global vok_int vok_bool vok_str vok_snil vok_pnil vok_agg cloV3_int cloV3_bool cloV3_str cloV3_snil cloV3_pnil voks_nil voks_cons scV_int scV_bool scV_str isBlV_b isBV_t isBV_f lwV_none lwV_sc lwV_agg lwV_tup lwV_isl lwV_own lwV_op lwV_ip lwV_fn lwV_junk vops_nil vops_n vops_s gsN_eq vop dstOk_some dstOk_none pkV_b blkV_set eRead_f eRead_t vLoad_op vLoad_ip vStore_op cells_sc cells_isl cells_own cells_op cells_ip cells_fn cells_agg parts_sc parts_isl parts_own parts_op parts_ip parts_fn parts_agg one_sc one_isl one_own one_op one_ip one_fn vField_op vField_ip ePart_f ePart_t vFieldV_agg vIx_isl vIx_own vIx_op vIx_ip vIxV_agg vIxV_str vLen_str vLen_isl vLen_own vLen_agg bndE_none bndE_int vSlice_isl vSlice_str vBin_add vBin_sub vBin_mul vBin_quo vBin_rem vBin_and vBin_or vBin_xor vBin_andNot vBin_eql vBin_neq vBin_lss vBin_leq vBin_gtr vBin_geq vBin_shr_i8 vBin_shl_i8 vBin_shr_i16 vBin_shl_i16 vBin_shr_i32 vBin_shl_i32 vBin_shr_i64 vBin_shl_i64 vBin_shr_u8 vBin_shl_u8 vBin_shr_u16 vBin_shl_u16 vBin_shr_u32 vBin_shl_u32 vBin_shr_u64 vBin_shl_u64 vBin_seq vBin_sne vBin_isln vBin_opn vBin_ipn ex_sc ex_sc2 ex_sc3 ex_tup calleeV wSc_pb wSc_pi wSc_not wSc_neg wSc_com wSc_min2 wSc_max2 vfold_nil vfold_one vfold_cons vfill_nil vfill_e eFill_s vBuild vBox vAlloc setV_map setV_zs setV_zn setV_s hset_hset eConv_ss vConv_e iv_eq ivI_eq ex_get ex_getI set_iv set_ivI okNil isNilV isSlV hdel_at hset_at List.map_toArray List.map_cons List.map_nil List.nil_append List.cons_append List.append_nil List.toList_toArray List.getElem?_toArray List.getElem_toArray List.getElem_cons_zero List.getElem_cons_succ List.getElem?_cons_zero List.getElem?_cons_succ List.set_cons_zero List.set_cons_succ List.set_set List.length_cons List.length_nil List.length_set List.length_map List.all_cons List.all_nil List.drop_zero List.drop_succ_cons List.take_succ_cons List.take_zero List.flatMap_cons Bool.and_eq_true true_and and_true if_true if_false ite_true ite_false forall_eq' forall_eq exists_eq_left exists_eq_left' exists_eq' Value.bool.injEq Value.int.injEq Value.string.injEq Value.pointer.injEq Option.some.injEq AV.sc.injEq AV.op.injEq AV.ip.injEq AV.own.injEq AV.agg.injEq VB.cells.injEq VB.iter.injEq Prod.mk.injEq decide_eq_true_eq decide_eq_false_iff_not Nat.reduceEqDiff Nat.reduceLT Nat.reduceLeDiff Nat.reduceSub Nat.reduceBEq reduceIte Int.reduceLE Int.reduceLT Int.reduceToNat Int.reduceNeg Int.reduceEq Int.reduceNe Int.cast_ofNat_Int Nat.reduceMul Nat.reduceAdd Nat.reduceDiv Nat.reduceMod Nat.reducePow Int.reduceSub Int.reduceAdd Int.reduceMul Int.reducePow Option.isSome_some Option.isSome_none Option.bind_some Option.map_some Option.map_none Option.toList_some Option.toList_none true_or or_true or_false false_or Bool.not_true Bool.not_false Bool.not_eq_true Bool.false_eq_true Bool.not_not false_implies true_implies implies_true Nat.zero_add Nat.add_zero Nat.mul_one Bool.not_eq_true' Bool.true_eq_false Bool.and_true Bool.true_and Bool.and_false Bool.false_and Bool.or_true Bool.true_or Bool.or_false Bool.false_or Option.isNone_some Option.isNone_none Int.reduceBEq Int.reduceBNe beq_self_eq_true bne_self_eq_false beq_iff_eq not_false_eq_true not_true_eq_false Decidable.not_not bne_iff_ne ne_eq Int.toNat_natCast gt_lt ge_le c_add c_mul c_sub c_addn c_nadd c_muln c_nmul c_subn c_nsub c_divn c_modn c_div c_mod c_tdivn c_tmodn c_tdiv c_tmod c_pow c_nn c_beq c_beqn c_bne c_bnen wr64 wr32 wru64 wru32 wru16 wru8 c_if c_if1 c_if2 c_lt c_le c_eq c_ltn c_len c_nlt c_nle c_eqn m_drop m_take Nat.add_sub_cancel_left Nat.add_sub_cancel Int.reduceTMod Int.reduceTDiv Int.reduceMod Int.reduceDiv isC_some hset_ne hdel_ne hdel_hset hdel_hset_ne blkV_nset blkV_ndel hset_hdel gV_t gV_f isGdV_b isGdV_u isBV_u isGdV_g isBV_gt isBV_gf decide_true decide_false Bool.or_eq_false_iff eq_self Nat.lt_irrefl Int.lt_irrefl Nat.le_refl Int.le_refl
attribute [local go_sem high] vops_pk vops_mv vops_as vops_smv pk_and pk_or pk_gand pk_gor pk_orn pk_gorn
attribute [local go_sem] ag3 sz3 zc3 ik3 ag4 sz4 zc4 ag5 sz5 zc5 ik5 ag22 sz22 el22 zc22 is22 ag24 sz24 el24 zc24 is24 ag25 sz25 zc25 ik25 ag30 sz30 zc30 ik30 ag31 sz31 zc31 pt31 ag38 sz38 el38 zc38 is38 ag39 sz39 zc39 pt39 ag49 sz49 zc49 bo49 ag54 sz54 ea54 an54 zc54 bo54 ag58 sz58 ea58 an58 zc58 bo58 ag60 sz60 zc60 bo60 ag62 sz62 zc62 bo62 ag68 sz68 zc68 pt68 ag72 sz72 zc72 ag73 sz73 ea73 an73 zc73 bo73 of49_0 fd49_0 of49_1 fd49_1 of60_0 fd60_0 of60_1 fd60_1 of60_2 fd60_2 of60_3 fd60_3 of60_4 fd60_4 of62_0 fd62_0 of62_1 fd62_1 eqb neb
def GL : Nat → AV := fun _ => .junk
section
variable {n : Nat} {h : VH} {K : AV → VH → Prop}
def hs32 (n : Int) : Nat := min n.toNat 32
theorem hs32_eq (a : Int) : (if 32 < (if a < 0 then 0 else a) then 32 else (if a < 0 then 0 else a)) = (hs32 a : Int) := by unfold hs32; split <;> split at * <;> omega
theorem hs32_le (a : Int) : hs32 a ≤ 32 := by unfold hs32; omega
theorem held_v {a : Int} (hK : K (.sc (.int .i64 (hs32 a : Nat))) h) : VC Try.prog GL (n + 1) 29 [(.sc (.int .i64 (a)))] h K := by
  refine VC_go Try.func29 rfl (by decide) Try.ntmps29 Try.results29 rfl fun Q hq hn => ?_
  repeat (first | (simp (maxSteps := 1000000) only [↓reduceIte, go_sem]) | (simp (maxSteps := 1000000) (disch := first | omega | assumption) only [BB]) | with_reducible refine Gst.now ?_ | with_reducible refine vawp_draw mixed (by kernel_rfl) ?_ | with_reducible first | refine lwV_out ?_ | refine lwV_out0 ?_ | refine lkC_out ?_ | refine And.intro (by omega) ?_ | fail)
  refine hq _ _ ?_
  repeat (first | (simp (maxSteps := 1000000) only [↓reduceIte, go_sem]) | (simp (maxSteps := 1000000) (disch := first | omega | assumption) only [BB]) | with_reducible refine Gst.now ?_ | with_reducible refine vawp_draw mixed (by kernel_rfl) ?_ | with_reducible first | refine lwV_out ?_ | refine lwV_out0 ?_ | refine lkC_out ?_ | refine And.intro (by omega) ?_ | fail)
  rw [hs32_eq]
  exact .now hK
theorem getD_lt {bs : List Nat} (hb : ∀ b ∈ bs, b < 256) (i : Nat) : bs.getD i 0 < 256 := by
  rw [List.getD_eq_getElem?_getD]
  cases hx : bs[i]? with
  | none => simp
  | some x => exact hb x (List.mem_of_getElem? hx)
theorem and1_u8 {x : Nat} (h : x < 256) : bits .and .u8 (x : Int) 1 = ((x % 2 : Nat) : Int) := by
  rw [show (1 : Int) = ((1 : Nat) : Int) from rfl, Go.u8_and_nat _ 1 h (by omega), Nat.and_one_is_mod]
theorem take_snoc {X : List Nat} {i : Nat} (hi : i < X.length) : X.take (i + 1) = X.take i ++ [X.getD i 0] := by
  rw [List.take_succ_eq_append_getElem hi, List.getD_eq_getElem?_getD, List.getElem?_eq_getElem hi]; rfl
def RdB (nl : Bool) (bs : List Nat) (a : Nat) : List AV := [.isl nl bs.length (bs.map (iv .u8)), (.sc (.int .i64 (a)))]
attribute [local go_sem] RdB
theorem get_v {j a : Nat} {nl : Bool} {bs : List Nat} {m : Int} (hr : blkV h j = some (62, RdB nl bs a)) (hb : ∀ b ∈ bs, b < 256) (ha : a ≤ 8 * bs.length) (hl : bs.length < 400000000)
    (hK1 : 8 * bs.length < a + hs32 m → K (.tup [(.sc (.int .u32 (0))), (.sc (.bool (false)))]) h)
    (hK2 : a + hs32 m ≤ 8 * bs.length → K (.tup [(.sc (.int .u32 (numB (((bitsOf bs).drop a).take (hs32 m)) : Nat))), (.sc (.bool (true)))]) (hset h j (.cells 62 false (RdB nl bs (a + hs32 m))))) : VC Try.prog GL (n + 2) 36 [.op j 0, (.sc (.int .i64 (m)))] h K := by
  refine VC_go Try.func36 rfl (by decide) Try.ntmps36 Try.results36 rfl fun Q hq hn => ?_
  repeat (first | (simp (maxSteps := 1000000) only [↓reduceIte, go_sem]) | (simp (maxSteps := 1000000) (disch := first | omega | assumption) only [BB]) | with_reducible refine Gst.now ?_ | with_reducible refine vawp_draw mixed (by kernel_rfl) ?_ | with_reducible first | refine lwV_out ?_ | refine lwV_out0 ?_ | refine lkC_out ?_ | refine And.intro (by omega) ?_ | fail)
  with_reducible refine call_ok ?_
  refine held_v ?_
  have hm : hs32 m ≤ 32 := by unfold hs32; omega
  generalize hs32 m = N at *
  repeat (first | (simp (maxSteps := 1000000) only [↓reduceIte, go_sem, hr]) | (simp (maxSteps := 1000000) (disch := first | omega | assumption) only [BB, hr]) | with_reducible refine Gst.now ?_ | with_reducible refine vawp_draw mixed (by kernel_rfl) ?_ | with_reducible first | refine lwV_out ?_ | refine lwV_out0 ?_ | refine lkC_out ?_ | refine And.intro (by omega) ?_ | fail)
  split
  · repeat (first | (simp (maxSteps := 1000000) only [↓reduceIte, go_sem]) | (simp (maxSteps := 1000000) (disch := first | omega | assumption) only [BB]) | with_reducible refine Gst.now ?_ | with_reducible refine vawp_draw mixed (by kernel_rfl) ?_ | with_reducible first | refine lwV_out ?_ | refine lwV_out0 ?_ | refine lkC_out ?_ | refine And.intro (by omega) ?_ | fail)
    refine hq _ _ ?_
    repeat (first | (simp (maxSteps := 1000000) only [↓reduceIte, go_sem]) | (simp (maxSteps := 1000000) (disch := first | omega | assumption) only [BB]) | with_reducible refine Gst.now ?_ | with_reducible refine vawp_draw mixed (by kernel_rfl) ?_ | with_reducible first | refine lwV_out ?_ | refine lwV_out0 ?_ | refine lkC_out ?_ | refine And.intro (by omega) ?_ | fail)
    exact .now (hK1 (by omega))
  · repeat (first | (simp (maxSteps := 1000000) only [↓reduceIte, go_sem]) | (simp (maxSteps := 1000000) (disch := first | omega | assumption) only [BB]) | with_reducible refine Gst.now ?_ | with_reducible refine vawp_draw mixed (by kernel_rfl) ?_ | with_reducible first | refine lwV_out ?_ | refine lwV_out0 ?_ | refine lkC_out ?_ | refine And.intro (by omega) ?_ | fail)
    refine vawp_loop (k := N) (fun k ρ h1 => ∃ i : Nat, k + i = N ∧ ρ 0 = .op j 0 ∧ ρ 23 = (.sc (.int .i64 (N))) ∧ ρ 24 = (.sc (.int .i64 (i))) ∧ ρ 6 = (.sc (.int .u32 (numB (((bitsOf bs).drop a).take i) : Nat))) ∧ h1 = hset h j (.cells 62 false (RdB nl bs (a + i)))) ?_ ?_
    · refine ⟨0, rfl, ?_⟩
      repeat (first | (simp (maxSteps := 1000000) only [↓reduceIte, go_sem]) | (simp (maxSteps := 1000000) (disch := first | omega | assumption) only [BB]) | with_reducible refine Gst.now ?_ | with_reducible refine vawp_draw mixed (by kernel_rfl) ?_ | with_reducible first | refine lwV_out ?_ | refine lwV_out0 ?_ | refine lkC_out ?_ | refine And.intro (by omega) ?_ | fail)
      exact ⟨rfl, (hset_same (blkV_iff.1 hr)).symm⟩
    · rintro k ρ h1 ⟨i, hki, g0, g23, g24, g6, rfl⟩
      repeat (first | (simp (maxSteps := 1000000) only [↓reduceIte, go_sem, g0, g23, g24, g6]) | (simp (maxSteps := 1000000) (disch := first | omega | assumption) only [BB, g0, g23, g24, g6]) | with_reducible refine Gst.now ?_ | with_reducible refine vawp_draw mixed (by kernel_rfl) ?_ | with_reducible first | refine lwV_out ?_ | refine lwV_out0 ?_ | refine lkC_out ?_ | refine And.intro (by omega) ?_ | fail)
      split
      · have hib : (a + i) / 8 < bs.length := by omega
        have e5 := and1_u8 (x := bs.getD ((a + i) / 8) 0 / 2 ^ ((a + i) % 8)) (Nat.lt_of_le_of_lt (Nat.div_le_self _ _) (getD_lt hb _))
        have hget : (bitsOf bs).getD (a + i) 0 = bs.getD ((a + i) / 8) 0 / 2 ^ ((a + i) % 8) % 2 := by
          have := bitsOf_get (p := a + i) (List.getElem?_eq_getElem hib)
          rw [List.getD_eq_getElem?_getD, this, List.getD_eq_getElem?_getD, List.getElem?_eq_getElem hib]; rfl
        have hY : (((bitsOf bs).drop a).take (i + 1)) = ((bitsOf bs).drop a).take i ++ [(bitsOf bs).getD (a + i) 0] := by
          rw [take_snoc (by rw [List.length_drop, bitsOf_len]; omega)]
          simp [List.getD_eq_getElem?_getD]
        have hYl : (((bitsOf bs).drop a).take i).length = i := by rw [List.length_take, List.length_drop, bitsOf_len]; omega
        have hYb : IsBits (((bitsOf bs).drop a).take i) := fun x hx => bitsOf_bits bs x (List.mem_of_mem_drop (List.mem_of_mem_take hx))
        have hlt := numB_lt hYb
        rw [hYl] at hlt
        have e6 := or_u32 (v := bs.getD ((a + i) / 8) 0 / 2 ^ ((a + i) % 8) % 2) hlt (by omega) (by omega)
        have e7 : numB (((bitsOf bs).drop a).take (i + 1)) = numB (((bitsOf bs).drop a).take i) + bs.getD ((a + i) / 8) 0 / 2 ^ ((a + i) % 8) % 2 * 2 ^ i := by
          rw [hY, numB_append, hYl, hget]; simp [numB, Nat.mul_comm]
        rw [← e7] at e6
        simp only [c_pow, c_mul] at e6
        repeat (first | (simp (maxSteps := 1000000) only [↓reduceIte, go_sem, g0, g24, g6, e5, e6]) | (simp (maxSteps := 1000000) (disch := first | omega | assumption) only [BB, g0, g24, g6, e5, e6]) | with_reducible refine Gst.now ?_ | with_reducible refine vawp_draw mixed (by kernel_rfl) ?_ | with_reducible first | refine lwV_out ?_ | refine lwV_out0 ?_ | refine lkC_out ?_ | refine And.intro (by omega) ?_ | fail)
        refine ⟨k - 1, by omega, i + 1, by omega, ?_⟩
        repeat (first | (simp (maxSteps := 1000000) only [↓reduceIte, go_sem, g0, g23]) | (simp (maxSteps := 1000000) (disch := first | omega | assumption) only [BB, g0, g23]) | with_reducible refine Gst.now ?_ | with_reducible refine vawp_draw mixed (by kernel_rfl) ?_ | with_reducible first | refine lwV_out ?_ | refine lwV_out0 ?_ | refine lkC_out ?_ | refine And.intro (by omega) ?_ | fail)
        rfl
      · repeat (first | (simp (maxSteps := 1000000) only [↓reduceIte, go_sem, g0, g6]) | (simp (maxSteps := 1000000) (disch := first | omega | assumption) only [BB, g0, g6]) | with_reducible refine Gst.now ?_ | with_reducible refine vawp_draw mixed (by kernel_rfl) ?_ | with_reducible first | refine lwV_out ?_ | refine lwV_out0 ?_ | refine lkC_out ?_ | refine And.intro (by omega) ?_ | fail)
        refine hq _ _ ?_
        repeat (first | (simp (maxSteps := 1000000) only [↓reduceIte, go_sem]) | (simp (maxSteps := 1000000) (disch := first | omega | assumption) only [BB]) | with_reducible refine Gst.now ?_ | with_reducible refine vawp_draw mixed (by kernel_rfl) ?_ | with_reducible first | refine lwV_out ?_ | refine lwV_out0 ?_ | refine lkC_out ?_ | refine And.intro (by omega) ?_ | fail)
        have hi : i = N := by omega
        subst hi
        exact .now (hK2 (by omega))
end
end Go.Proofs.Ytncicgfbnjneeaa.VBits
