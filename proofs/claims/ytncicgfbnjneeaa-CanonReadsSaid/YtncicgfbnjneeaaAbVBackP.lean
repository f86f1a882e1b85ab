/- what is written by codes is read as it: plain facts. -/
import Derived.Test.YtncicgfbnjneeaaProg
import Derived.Test.YtncicgfbnjneeaaAbV16
import Derived.Test.YtncicgfbnjneeaaAbFacts
import Derived.Test.YtncicgfbnjneeaaAbBitsM
import Derived.Test.YtncicgfbnjneeaaAbVBits
import Derived.Test.YtncicgfbnjneeaaAbVBitsT
import Derived.Test.YtncicgfbnjneeaaAbVLen
import Derived.Test.YtncicgfbnjneeaaAbVCheck
import Derived.Test.YtncicgfbnjneeaaAbVCodes
import Derived.Test.YtncicgfbnjneeaaAbVRCodes
import Derived.Test.YtncicgfbnjneeaaAbVNew
import Derived.Test.YtncicgfbnjneeaaAbVNewB
import Derived.Test.YtncicgfbnjneeaaAbVTab
import Derived.Test.YtncicgfbnjneeaaAbVRead
import Derived.Test.YtncicgfbnjneeaaAbVLaw
import Derived.Test.YtncicgfbnjneeaaAbVOrders
import Derived.Test.YtncicgfbnjneeaaAbVSums
import Derived.KernelRfl
import Derived.Laws.BitsAllLaws
set_option linter.unusedVariables false
set_option linter.unusedSimpArgs false
set_option maxRecDepth 100000
set_option maxHeartbeats 4000000
namespace Go.Proofs.Ytncicgfbnjneeaa.VBackP
open Go.RowKit Go.Proofs.AbM Go.Proofs.Ytncicgfbnjneeaa.Facts Go.Proofs.Ytncicgfbnjneeaa.BitsM Go.Proofs.Ytncicgfbnjneeaa.VBits Go.Proofs.Ytncicgfbnjneeaa.VBitsT Go.Proofs.Ytncicgfbnjneeaa.VLen Go.Proofs.Ytncicgfbnjneeaa.VCheck Go.Proofs.Ytncicgfbnjneeaa.VCodes Go.Proofs.Ytncicgfbnjneeaa.VRCodes Go.Proofs.Ytncicgfbnjneeaa.VNew Go.Proofs.Ytncicgfbnjneeaa.VNewB Go.Proofs.Ytncicgfbnjneeaa.VTab Go.Proofs.Ytncicgfbnjneeaa.VRead Go.Proofs.Ytncicgfbnjneeaa.VLaw Go.Proofs.Ytncicgfbnjneeaa.VOrders Go.Proofs.Ytncicgfbnjneeaa.VSums
attribute [local go_sem] vawp_skip_eq vawp_seq_eq vawp_region_eq vawp_cond_g vawp_block_eq vawp_exit_eq vawp_ret_eq thenV_ret thenV_exit thenV_normal inBlockV_normal inBlockV_ret inBlockV_exit resKV_nil resKV_tmp resKV_cell oneV_one oneV_nil oneV_more initV_nil initV_cons updV_at evv_tmp evv_func evv_global evv_int evv_bool evv_str evv_snil evv_pnil evv_agg ofV3_int ofV3_bool ofV3_str ofV3_snil ofV3_pnil vok_tmp vok_func vok_global vok_int vok_bool vok_str vok_snil vok_pnil vok_agg cloV3_int cloV3_bool cloV3_str cloV3_snil cloV3_pnil voks_nil voks_cons scV_int scV_bool scV_str isBlV_b isBV_t isBV_f lwV_none lwV_sc lwV_agg lwV_tup lwV_isl lwV_own lwV_op lwV_ip lwV_fn lwV_junk vops_nil vops_n vops_s gsN_eq vop dstOk_some dstOk_none pkV_b blkV_set eRead_f eRead_t vLoad_op vLoad_ip vStore_op cells_sc cells_isl cells_own cells_op cells_ip cells_fn cells_agg parts_sc parts_isl parts_own parts_op parts_ip parts_fn parts_agg one_sc one_isl one_own one_op one_ip one_fn vField_op vField_ip ePart_f ePart_t vFieldV_agg vIx_isl vIx_own vIx_op vIx_ip vIxV_agg vIxV_str vLen_str vLen_isl vLen_own vLen_agg bndE_none bndE_int vSlice_isl vSlice_str vBin_add vBin_sub vBin_mul vBin_quo vBin_rem vBin_and vBin_or vBin_xor vBin_andNot vBin_eql vBin_neq vBin_lss vBin_leq vBin_gtr vBin_geq vBin_shr_i8 vBin_shl_i8 vBin_shr_i16 vBin_shl_i16 vBin_shr_i32 vBin_shl_i32 vBin_shr_i64 vBin_shl_i64 vBin_shr_u8 vBin_shl_u8 vBin_shr_u16 vBin_shl_u16 vBin_shr_u32 vBin_shl_u32 vBin_shr_u64 vBin_shl_u64 vBin_seq vBin_sne vBin_isln vBin_opn vBin_ipn ex_sc ex_sc2 ex_sc3 ex_tup calleeV wSc_pb wSc_pi wSc_not wSc_neg wSc_com wSc_min2 wSc_max2 vfold_nil vfold_one vfold_cons vfill_nil vfill_e eFill_s vBuild vBox vAlloc setV_map setV_zs setV_zn setV_s hset_hset eConv_ss vConv_e iv_eq ivI_eq ex_get ex_getI set_iv set_ivI okNil isNilV isSlV hdel_at hset_at List.map_toArray List.map_cons List.map_nil List.nil_append List.cons_append List.append_nil List.toList_toArray List.getElem?_toArray List.getElem_toArray List.getElem_cons_zero List.getElem_cons_succ List.getElem?_cons_zero List.getElem?_cons_succ List.set_cons_zero List.set_cons_succ List.set_set List.length_cons List.length_nil List.length_set List.length_map List.all_cons List.all_nil List.drop_zero List.drop_succ_cons List.take_succ_cons List.take_zero List.flatMap_cons Bool.and_eq_true true_and and_true if_true if_false ite_true ite_false forall_eq' forall_eq exists_eq_left exists_eq_left' exists_eq' Value.bool.injEq Value.int.injEq Value.string.injEq Value.pointer.injEq Option.some.injEq AV.sc.injEq AV.op.injEq AV.ip.injEq AV.own.injEq AV.agg.injEq VB.cells.injEq VB.iter.injEq Prod.mk.injEq decide_eq_true_eq decide_eq_false_iff_not Nat.reduceEqDiff Nat.reduceLT Nat.reduceLeDiff Nat.reduceSub Nat.reduceBEq reduceIte Int.reduceLE Int.reduceLT Int.reduceToNat Int.reduceNeg Int.reduceEq Int.reduceNe Int.cast_ofNat_Int Nat.reduceMul Nat.reduceAdd Nat.reduceDiv Nat.reduceMod Nat.reducePow Int.reduceSub Int.reduceAdd Int.reduceMul Int.reducePow Option.isSome_some Option.isSome_none Option.bind_some Option.map_some Option.map_none Option.toList_some Option.toList_none true_or or_true or_false false_or Bool.not_true Bool.not_false Bool.not_eq_true Bool.false_eq_true Bool.not_not false_implies true_implies implies_true Nat.zero_add Nat.add_zero Nat.mul_one Bool.not_eq_true' Bool.true_eq_false Bool.and_true Bool.true_and Bool.and_false Bool.false_and Bool.or_true Bool.true_or Bool.or_false Bool.false_or Option.isNone_some Option.isNone_none Int.reduceBEq Int.reduceBNe beq_self_eq_true bne_self_eq_false beq_iff_eq not_false_eq_true not_true_eq_false Decidable.not_not bne_iff_ne ne_eq Int.toNat_natCast gt_lt ge_le c_add c_mul c_sub c_addn c_nadd c_muln c_nmul c_subn c_nsub c_divn c_modn c_div c_mod c_tdivn c_tmodn c_tdiv c_tmod c_pow c_nn c_beq c_beqn c_bne c_bnen wr64 wr32 wru64 wru32 wru16 wru8 c_if c_if1 c_if2 c_lt c_le c_eq c_ltn c_len c_nlt c_nle c_eqn m_drop m_take Nat.add_sub_cancel_left Nat.add_sub_cancel Int.reduceTMod Int.reduceTDiv Int.reduceMod Int.reduceDiv isC_some hset_ne hdel_ne hdel_hset hdel_hset_ne blkV_nset blkV_ndel hset_hdel gV_t gV_f isGdV_b isGdV_u isBV_u isGdV_g isBV_gt isBV_gf decide_true decide_false Bool.or_eq_false_iff eq_self Nat.lt_irrefl Int.lt_irrefl Nat.le_refl Int.le_refl
attribute [local go_sem high] vops_pk vops_mv vops_as vops_smv pk_and pk_or pk_gand pk_gor pk_orn pk_gorn
attribute [local go_sem] ag3 sz3 zc3 ik3 ag4 sz4 zc4 ag5 sz5 zc5 ik5 ag22 sz22 el22 zc22 is22 ag24 sz24 el24 zc24 is24 ag25 sz25 zc25 ik25 ag30 sz30 zc30 ik30 ag31 sz31 zc31 pt31 ag38 sz38 el38 zc38 is38 ag39 sz39 zc39 pt39 ag49 sz49 zc49 bo49 ag54 sz54 ea54 an54 zc54 bo54 ag58 sz58 ea58 an58 zc58 bo58 ag60 sz60 zc60 bo60 ag62 sz62 zc62 bo62 ag68 sz68 zc68 pt68 ag72 sz72 zc72 ag73 sz73 ea73 an73 zc73 bo73 of49_0 fd49_0 of49_1 fd49_1 of60_0 fd60_0 of60_1 fd60_1 of60_2 fd60_2 of60_3 fd60_3 of60_4 fd60_4 of62_0 fd62_0 of62_1 fd62_1 eqb neb
section
theorem noneF_hit {ls : List Nat} {code m l : Nat} (h : noneAt ls code m l = false) (hl : l ≤ longL ls ls.length) : ∀ d, longL ls ls.length + 1 - d ≤ l → d ≤ longL ls ls.length + 1 → noneF ls code m d = false
  | 0, h1, _ => by omega
  | d + 1, h1, h2 => by
    show (noneAt ls code m (longL ls ls.length + 1 - (d + 1)) && noneF ls code m d) = false
    by_cases he : longL ls ls.length + 1 - (d + 1) = l
    · rw [he, h]; rfl
    · rw [noneF_hit h hl d (by omega) (by omega), Bool.and_false]
theorem symL_cnt {ls : List Nat} {l : Nat} (h0 : 0 < l) : ∀ i, i ≤ ls.length → (symL ls i l).length = (ls.take i).count l
  | 0, _ => by simp [symL]
  | i + 1, hi => by
    rw [symL_next, List.length_append, symL_cnt h0 i (by omega), count_take (by omega)]
    by_cases h1 : ls.getD i 0 = l
    · rw [if_pos ⟨h0, h1⟩, if_pos h1]; rfl
    · rw [if_neg (fun hh => h1 hh.2), if_neg h1]; rfl
theorem sym_at {ls : List Nat} {s : Nat} (hs : s < ls.length) (h0 : 0 < ls.getD s 0) : ∀ d, s + 1 + d ≤ ls.length → (symL ls (s + 1 + d) (ls.getD s 0)).getD ((ls.take s).count (ls.getD s 0)) 0 = s
  | 0, _ => by
    rw [Nat.add_zero, symL_next, if_pos ⟨h0, rfl⟩, ← symL_cnt h0 s (by omega), List.getD_eq_getElem?_getD, List.getElem?_append_right (Nat.le_refl _), Nat.sub_self]; rfl
  | d + 1, hd => by
    have ih := sym_at hs h0 d (by omega)
    have hlen : (ls.take s).count (ls.getD s 0) < (symL ls (s + 1 + d) (ls.getD s 0)).length := by
      rw [symL_cnt h0 _ (by omega)]
      have h1 := count_take (j := ls.getD s 0) hs
      rw [if_pos rfl] at h1
      have h2 : (ls.take (s + 1)).count (ls.getD s 0) ≤ (ls.take (s + 1 + d)).count (ls.getD s 0) := by
        have e : ls.take (s + 1) = (ls.take (s + 1 + d)).take (s + 1) := by rw [List.take_take, Nat.min_eq_left (by omega)]
        rw [e]; exact (List.take_sublist _ _).count_le _
      omega
    rw [show s + 1 + (d + 1) = s + 1 + d + 1 by omega, symL_next, List.getD_eq_getElem?_getD, List.getElem?_append_left hlen, ← List.getD_eq_getElem?_getD]
    exact ih
theorem readL_code {ls X : List Nat} (h15 : ∀ x ∈ ls, x ≤ 15) {s a0 : Nat} (hs : s < ls.length) (h0 : 0 < ls.getD s 0) (ha : a0 + ls.getD s 0 ≤ X.length) (hX : ∀ t, t < ls.getD s 0 → X.getD (a0 + t) 0 = codeS ls s / 2 ^ (ls.getD s 0 - 1 - t) % 2) : ∀ f m, f + m = 16 → m < ls.getD s 0 → readL ls X f (a0 + m) (codeS ls s / 2 ^ (ls.getD s 0 - m)) m = (s, 0, a0 + ls.getD s 0)
  | 0, m, hf, hm => by have := getD_leN (i := s) h15; omega
  | f + 1, m, hf, hm => by
    have hN := getD_leN (i := s) h15
    have hci := code_in h15 hs h0
    have hNL : ls.getD s 0 ≤ longL ls ls.length := long_ge ls.length s hs
    have hsl := sLen_cnt ls (ls.getD s 0) (by omega)
    have hnb : noneB ls (codeS ls s / 2 ^ (ls.getD s 0 - m)) m = false := by
      unfold noneB
      refine noneF_hit (l := ls.getD s 0) ?_ hNL _ (by omega) (by omega)
      unfold noneAt
      have h1 : codeS ls s / 2 ^ (ls.getD s 0 - m) * 2 ^ (ls.getD s 0 - m) < firstL ls (ls.getD s 0) + sLen ls (ls.getD s 0) := by
        have := Nat.div_mul_le_self (codeS ls s) (2 ^ (ls.getD s 0 - m))
        omega
      rw [decide_eq_true h1, decide_eq_true (show 0 < sLen ls (ls.getD s 0) by omega)]; rfl
    rw [readL_s, if_neg (by rw [hnb]; decide), if_neg (by omega), hX m hm]
    have hq : 2 * (codeS ls s / 2 ^ (ls.getD s 0 - m)) + codeS ls s / 2 ^ (ls.getD s 0 - 1 - m) % 2 = codeS ls s / 2 ^ (ls.getD s 0 - (m + 1)) := by
      rw [show ls.getD s 0 - m = (ls.getD s 0 - (m + 1)) + 1 by omega, Nat.pow_succ, ← Nat.div_div_eq_div_mul, show ls.getD s 0 - 1 - m = ls.getD s 0 - (m + 1) by omega]
      omega
    rw [hq]
    by_cases hmN : m + 1 = ls.getD s 0
    · rw [hmN, Nat.sub_self, Nat.pow_zero, Nat.div_one]
      have hcd : codeS ls s - firstL ls (ls.getD s 0) = (ls.take s).count (ls.getD s 0) := by
        unfold codeS; rw [if_pos h0]; omega
      rw [if_pos (by omega), hcd]
      have hsa := sym_at hs h0 (ls.length - (s + 1)) (by omega)
      rw [show s + 1 + (ls.length - (s + 1)) = ls.length by omega] at hsa
      rw [hsa, show a0 + m + 1 = a0 + ls.getD s 0 by omega]
    · have hef := end_first ls (ls.getD s 0 - (m + 1)) (m + 1)
      rw [if_neg (by omega), Nat.add_zero, show m + 1 + (ls.getD s 0 - (m + 1)) = ls.getD s 0 by omega] at hef
      have hge : firstL ls (m + 1) + sLen ls (m + 1) ≤ codeS ls s / 2 ^ (ls.getD s 0 - (m + 1)) := by
        rw [sLen_cnt ls _ (by omega), Nat.le_div_iff_mul_le (Nat.pow_pos (by decide))]
        exact Nat.le_trans hef hci.1
      rw [if_neg (by omega)]
      exact readL_code h15 hs h0 ha hX f (m + 1) (by omega) (by omega)
/-- no code is the beginning of another one -/
theorem code_pre {ls : List Nat} (h15 : ∀ x ∈ ls, x ≤ 15) {s t : Nat} (hs : s < ls.length) (ht : t < ls.length) (hs0 : 0 < ls.getD s 0) (hst : s ≠ t) (hle : ls.getD s 0 ≤ ls.getD t 0) : codeS ls t / 2 ^ (ls.getD t 0 - ls.getD s 0) ≠ codeS ls s := by
  have a1 := code_in h15 hs hs0
  have b1 := code_in h15 ht (by omega)
  intro he
  by_cases heq : ls.getD s 0 = ls.getD t 0
  · rw [heq, Nat.sub_self, Nat.pow_zero, Nat.div_one] at he
    rcases Nat.lt_or_gt_of_ne hst with h | h
    · have := fill_lt h15 hs ht hs0 (by omega) (.inr ⟨heq, h⟩)
      unfold fillS at this
      rw [heq, he] at this
      omega
    · have := fill_lt h15 ht hs (by omega) hs0 (.inr ⟨heq.symm, h⟩)
      unfold fillS at this
      rw [heq, he] at this
      omega
  · have hef := end_first ls (ls.getD t 0 - ls.getD s 0) (ls.getD s 0)
    rw [if_neg (by omega), Nat.add_zero, show ls.getD s 0 + (ls.getD t 0 - ls.getD s 0) = ls.getD t 0 by omega] at hef
    have h2 : firstL ls (ls.getD s 0) + (cntL ls).getD (ls.getD s 0) 0 ≤ codeS ls t / 2 ^ (ls.getD t 0 - ls.getD s 0) := by
      rw [Nat.le_div_iff_mul_le (Nat.pow_pos (by decide))]
      exact Nat.le_trans hef b1.1
    omega
end
end Go.Proofs.Ytncicgfbnjneeaa.VBackP
