/- the laws of chapter 10, over the machine of values: CanonSums. -/
import Derived.Test.YtncicgfbnjneeaaProg
import Derived.Test.YtncicgfbnjneeaaAbV16
import Derived.Test.YtncicgfbnjneeaaAbFacts
import Derived.Test.YtncicgfbnjneeaaAbBitsM
import Derived.Test.YtncicgfbnjneeaaAbVBits
import Derived.Test.YtncicgfbnjneeaaAbVBitsT
import Derived.Test.YtncicgfbnjneeaaAbVLen
import Derived.Test.YtncicgfbnjneeaaAbVCheck
import Derived.Test.YtncicgfbnjneeaaAbVCodes
import Derived.Test.YtncicgfbnjneeaaAbVRCodes
import Derived.Test.YtncicgfbnjneeaaAbVNew
import Derived.Test.YtncicgfbnjneeaaAbVNewB
import Derived.Test.YtncicgfbnjneeaaAbVTab
import Derived.Test.YtncicgfbnjneeaaAbVRead
import Derived.Test.YtncicgfbnjneeaaAbVLaw
import Derived.KernelRfl
import Derived.Laws.BitsAllLaws
set_option linter.unusedVariables false
set_option linter.unusedSimpArgs false
set_option maxRecDepth 100000
set_option maxHeartbeats 4000000
namespace Go.Proofs.Ytncicgfbnjneeaa.VSums
open Go.RowKit Go.Proofs.AbM Go.Proofs.Ytncicgfbnjneeaa.Facts Go.Proofs.Ytncicgfbnjneeaa.BitsM Go.Proofs.Ytncicgfbnjneeaa.VBits Go.Proofs.Ytncicgfbnjneeaa.VBitsT Go.Proofs.Ytncicgfbnjneeaa.VLen Go.Proofs.Ytncicgfbnjneeaa.VCheck Go.Proofs.Ytncicgfbnjneeaa.VCodes Go.Proofs.Ytncicgfbnjneeaa.VRCodes Go.Proofs.Ytncicgfbnjneeaa.VNew Go.Proofs.Ytncicgfbnjneeaa.VNewB Go.Proofs.Ytncicgfbnjneeaa.VTab Go.Proofs.Ytncicgfbnjneeaa.VRead Go.Proofs.Ytncicgfbnjneeaa.VLaw
attribute [local go_sem] vawp_skip_eq vawp_seq_eq vawp_region_eq vawp_cond_g vawp_block_eq vawp_exit_eq vawp_ret_eq thenV_ret thenV_exit thenV_normal inBlockV_normal inBlockV_ret inBlockV_exit resKV_nil resKV_tmp resKV_cell oneV_one oneV_nil oneV_more initV_nil initV_cons updV_at evv_tmp evv_func evv_global evv_int evv_bool evv_str evv_snil evv_pnil evv_agg ofV3_int ofV3_bool ofV3_str ofV3_snil ofV3_pnil vok_tmp vok_func vok_global vok_int vok_bool vok_str vok_snil vok_pnil vok_agg cloV3_int cloV3_bool cloV3_str cloV3_snil cloV3_pnil voks_nil voks_cons scV_int scV_bool scV_str isBlV_b isBV_t isBV_f lwV_none lwV_sc lwV_agg lwV_tup lwV_isl lwV_own lwV_op lwV_ip lwV_fn lwV_junk vops_nil vops_n vops_s gsN_eq vop dstOk_some dstOk_none pkV_b blkV_set eRead_f eRead_t vLoad_op vLoad_ip vStore_op cells_sc cells_isl cells_own cells_op cells_ip cells_fn cells_agg parts_sc parts_isl parts_own parts_op parts_ip parts_fn parts_agg one_sc one_isl one_own one_op one_ip one_fn vField_op vField_ip ePart_f ePart_t vFieldV_agg vIx_isl vIx_own vIx_op vIx_ip vIxV_agg vIxV_str vLen_str vLen_isl vLen_own vLen_agg bndE_none bndE_int vSlice_isl vSlice_str vBin_add vBin_sub vBin_mul vBin_quo vBin_rem vBin_and vBin_or vBin_xor vBin_andNot vBin_eql vBin_neq vBin_lss vBin_leq vBin_gtr vBin_geq vBin_shr_i8 vBin_shl_i8 vBin_shr_i16 vBin_shl_i16 vBin_shr_i32 vBin_shl_i32 vBin_shr_i64 vBin_shl_i64 vBin_shr_u8 vBin_shl_u8 vBin_shr_u16 vBin_shl_u16 vBin_shr_u32 vBin_shl_u32 vBin_shr_u64 vBin_shl_u64 vBin_seq vBin_sne vBin_isln vBin_opn vBin_ipn ex_sc ex_sc2 ex_sc3 ex_tup calleeV wSc_pb wSc_pi wSc_not wSc_neg wSc_com wSc_min2 wSc_max2 vfold_nil vfold_one vfold_cons vfill_nil vfill_e eFill_s vBuild vBox vAlloc setV_map setV_zs setV_zn setV_s hset_hset eConv_ss vConv_e iv_eq ivI_eq ex_get ex_getI set_iv set_ivI okNil isNilV isSlV hdel_at hset_at List.map_toArray List.map_cons List.map_nil List.nil_append List.cons_append List.append_nil List.toList_toArray List.getElem?_toArray List.getElem_toArray List.getElem_cons_zero List.getElem_cons_succ List.getElem?_cons_zero List.getElem?_cons_succ List.set_cons_zero List.set_cons_succ List.set_set List.length_cons List.length_nil List.length_set List.length_map List.all_cons List.all_nil List.drop_zero List.drop_succ_cons List.take_succ_cons List.take_zero List.flatMap_cons Bool.and_eq_true true_and and_true if_true if_false ite_true ite_false forall_eq' forall_eq exists_eq_left exists_eq_left' exists_eq' Value.bool.injEq Value.int.injEq Value.string.injEq Value.pointer.injEq Option.some.injEq AV.sc.injEq AV.op.injEq AV.ip.injEq AV.own.injEq AV.agg.injEq VB.cells.injEq VB.iter.injEq Prod.mk.injEq decide_eq_true_eq decide_eq_false_iff_not Nat.reduceEqDiff Nat.reduceLT Nat.reduceLeDiff Nat.reduceSub Nat.reduceBEq reduceIte Int.reduceLE Int.reduceLT Int.reduceToNat Int.reduceNeg Int.reduceEq Int.reduceNe Int.cast_ofNat_Int Nat.reduceMul Nat.reduceAdd Nat.reduceDiv Nat.reduceMod Nat.reducePow Int.reduceSub Int.reduceAdd Int.reduceMul Int.reducePow Option.isSome_some Option.isSome_none Option.bind_some Option.map_some Option.map_none Option.toList_some Option.toList_none true_or or_true or_false false_or Bool.not_true Bool.not_false Bool.not_eq_true Bool.false_eq_true Bool.not_not false_implies true_implies implies_true Nat.zero_add Nat.add_zero Nat.mul_one Bool.not_eq_true' Bool.true_eq_false Bool.and_true Bool.true_and Bool.and_false Bool.false_and Bool.or_true Bool.true_or Bool.or_false Bool.false_or Option.isNone_some Option.isNone_none Int.reduceBEq Int.reduceBNe beq_self_eq_true bne_self_eq_false beq_iff_eq not_false_eq_true not_true_eq_false Decidable.not_not bne_iff_ne ne_eq Int.toNat_natCast gt_lt ge_le c_add c_mul c_sub c_addn c_nadd c_muln c_nmul c_subn c_nsub c_divn c_modn c_div c_mod c_tdivn c_tmodn c_tdiv c_tmod c_pow c_nn c_beq c_beqn c_bne c_bnen wr64 wr32 wru64 wru32 wru16 wru8 c_if c_if1 c_if2 c_lt c_le c_eq c_ltn c_len c_nlt c_nle c_eqn m_drop m_take Nat.add_sub_cancel_left Nat.add_sub_cancel Int.reduceTMod Int.reduceTDiv Int.reduceMod Int.reduceDiv isC_some hset_ne hdel_ne hdel_hset hdel_hset_ne blkV_nset blkV_ndel hset_hdel gV_t gV_f isGdV_b isGdV_u isBV_u isGdV_g isBV_gt isBV_gf decide_true decide_false Bool.or_eq_false_iff eq_self Nat.lt_irrefl Int.lt_irrefl Nat.le_refl Int.le_refl
attribute [local go_sem high] vops_pk vops_mv vops_as vops_smv pk_and pk_or pk_gand pk_gor pk_orn pk_gorn
attribute [local go_sem] ag3 sz3 zc3 ik3 ag4 sz4 zc4 ag5 sz5 zc5 ik5 ag22 sz22 el22 zc22 is22 ag24 sz24 el24 zc24 is24 ag25 sz25 zc25 ik25 ag30 sz30 zc30 ik30 ag31 sz31 zc31 pt31 ag38 sz38 el38 zc38 is38 ag39 sz39 zc39 pt39 ag49 sz49 zc49 bo49 ag54 sz54 ea54 an54 zc54 bo54 ag58 sz58 ea58 an58 zc58 bo58 ag60 sz60 zc60 bo60 ag62 sz62 zc62 bo62 ag68 sz68 zc68 pt68 ag72 sz72 zc72 ag73 sz73 ea73 an73 zc73 bo73 of49_0 fd49_0 of49_1 fd49_1 of60_0 fd60_0 of60_1 fd60_1 of60_2 fd60_2 of60_3 fd60_3 of60_4 fd60_4 of62_0 fd62_0 of62_1 fd62_1 eqb neb
section
variable {n : Nat} {h : VH} {K : AV → VH → Prop}
attribute [local go_sem] Nat.zero_le
/-! ### full codes read every row of bits -/
theorem long_ge {ls : List Nat} : ∀ i s, s < i → ls.getD s 0 ≤ longL ls i
  | 0, s, h => by omega
  | i + 1, s, h => by
    rw [longL]
    by_cases hs : s = i
    · subst hs; split <;> omega
    · have := long_ge (ls := ls) i s (by omega)
      split <;> omega
theorem long_at {ls : List Nat} : ∀ i, longL ls i = 0 ∨ ∃ s, s < i ∧ ls.getD s 0 = longL ls i
  | 0 => .inl rfl
  | i + 1 => by
    rw [longL]
    split
    · exact .inr ⟨i, by omega, rfl⟩
    · rcases long_at (ls := ls) i with h | ⟨s, h1, h2⟩
      · exact .inl h
      · exact .inr ⟨s, by omega, h2⟩
theorem sumF_tail {f : Nat → Nat} {a : Nat} : ∀ b, a ≤ b → (∀ m, a ≤ m → m < b → f m = 0) → sumF f b = sumF f a
  | 0, h, _ => by rw [show a = 0 by omega]
  | b + 1, h, hz => by
    by_cases hb : a ≤ b
    · rw [sumF, sumF_tail b hb (fun m h1 h2 => hz m h1 (by omega)), hz b hb (by omega)]; rfl
    · rw [show a = b + 1 by omega]
theorem cnt_zero {ls : List Nat} {m : Nat} (hm : m < 16) (h : longL ls ls.length < m) : (cntL ls).getD m 0 = 0 := by
  rw [cntL_get ls m hm, if_neg (by omega)]
  rw [List.count_eq_zero]
  intro hmem
  obtain ⟨s, hs⟩ := List.getElem?_of_mem hmem
  have hlt := (List.getElem?_eq_some_iff.1 hs).1
  have := long_ge (ls := ls) ls.length s hlt
  rw [List.getD_eq_getElem?_getD, hs] at this
  simp only [Option.getD_some] at this
  omega
theorem full_end {ls : List Nat} (h15 : ∀ x ∈ ls, x ≤ 15) (hs : sumL ls = 32768) : firstL ls (longL ls ls.length) + sLen ls (longL ls ls.length) = 2 ^ longL ls ls.length := by
  have hl := long_le h15 ls.length
  rw [sLen_cnt ls _ (by omega)]
  have h1 := first_sum ls _ hl
  have h2 : sumF (wC ls) 16 = sumF (wC ls) (longL ls ls.length + 1) := sumF_tail 16 (by omega) fun m hm1 hm2 => by
    unfold wC; rw [cnt_zero hm2 (by omega), Nat.zero_mul]
  rw [sum_eq ls h15, hs, sumF, ← h1, wC, ← Nat.add_mul] at h2
  have h3 : (32768 : Nat) = 2 ^ longL ls ls.length * 2 ^ (15 - longL ls ls.length) := by rw [← Nat.pow_add, show longL ls ls.length + (15 - longL ls ls.length) = 15 by omega]
  rw [h3] at h2
  exact (Nat.eq_of_mul_eq_mul_right (Nat.pow_pos (by decide)) h2).symm
theorem sym_mem {ls : List Nat} {l i : Nat} (h : i < sLen ls l) : (symL ls ls.length l).getD i 0 < ls.length ∧ 0 < l ∧ ls.getD ((symL ls ls.length l).getD i 0) 0 = l := by
  have hm : (symL ls ls.length l).getD i 0 ∈ symL ls ls.length l := by
    rw [List.getD_eq_getElem?_getD, List.getElem?_eq_getElem h]; exact List.getElem_mem h
  generalize (symL ls ls.length l).getD i 0 = s at *
  unfold symL at hm
  rw [List.mem_filter, List.mem_range] at hm
  simpa using hm
theorem noneF_false {ls : List Nat} {code m : Nat} (h : noneAt ls code m (longL ls ls.length) = false) : ∀ d, noneF ls code m (d + 1) = false
  | 0 => by
    show (noneAt ls code m (longL ls ls.length + 1 - (0 + 1)) && true) = false
    rw [show longL ls ls.length + 1 - (0 + 1) = longL ls ls.length by omega, h]; rfl
  | d + 1 => by
    show (_ && noneF ls code m (d + 1)) = false
    rw [noneF_false h d, Bool.and_false]
theorem readL_full {ls X : List Nat} (h15 : ∀ x ∈ ls, x ≤ 15) (hs : sumL ls = 32768) (hL : 0 < longL ls ls.length) (hX : ∀ i, X.getD i 0 < 2) : ∀ (f m a code : Nat), f + m = 16 → m < longL ls ls.length → code < 2 ^ m → firstL ls m + sLen ls m ≤ code → ∀ s e a', (s, e, a') = readL ls X f a code m → (e = 0 ∧ s < ls.length ∧ 0 < ls.getD s 0 ∧ a' + m = a + ls.getD s 0 ∧ a' ≤ X.length) ∨ (e = 20 ∧ X.length + m < a + longL ls ls.length)
  | 0, m, a, code, hf, hm, _, _, _, _, _, _ => by have := long_le h15 ls.length; omega
  | f + 1, m, a, code, hf, hm, hc, he, s, e, a', hr => by
    have hl15 := long_le h15 ls.length
    have hfe := full_end h15 hs
    have hsl0 : 0 < sLen ls (longL ls ls.length) := by
      rcases long_at (ls := ls) ls.length with h0 | ⟨s, h1, h2⟩
      · omega
      · rw [sLen_cnt ls _ (by omega), cntL_get ls _ (by omega), if_neg (by omega)]
        apply List.count_pos_iff.2
        rw [← h2, List.getD_eq_getElem?_getD, List.getElem?_eq_getElem h1]
        exact List.getElem_mem h1
    have hna : noneAt ls code m (longL ls ls.length) = false := by
      unfold noneAt
      have h1 : code * 2 ^ (longL ls ls.length - m) < firstL ls (longL ls ls.length) + sLen ls (longL ls ls.length) := by
        rw [hfe, show (2 : Nat) ^ longL ls ls.length = 2 ^ m * 2 ^ (longL ls ls.length - m) by rw [← Nat.pow_add]; congr 1; omega]
        exact Nat.mul_lt_mul_of_pos_right hc (Nat.pow_pos (by decide))
      rw [decide_eq_true h1, decide_eq_true hsl0]; rfl
    have hnb : noneB ls code m = false := by
      unfold noneB
      obtain ⟨d, hd⟩ : ∃ d, longL ls ls.length + 1 - m = d + 1 := ⟨longL ls ls.length - m, by omega⟩
      rw [hd]; exact noneF_false hna d
    rw [readL_s, if_neg (by rw [hnb]; decide)] at hr
    split at hr
    · simp only [Prod.mk.injEq] at hr
      right
      omega
    · have hb := hX a
      have hfs : firstL ls (m + 1) = (firstL ls m + (cntL ls).getD m 0) * 2 := rfl
      rw [← sLen_cnt ls m (by omega)] at hfs
      generalize X.getD a 0 = b at *
      split at hr
      · rename_i hlt
        simp only [Prod.mk.injEq] at hr
        obtain ⟨h1, h2, h3⟩ := sym_mem hlt
        left
        obtain ⟨rfl, rfl, rfl⟩ := hr
        exact ⟨rfl, h1, by omega, by omega, by omega⟩
      · rename_i hlt
        have hne : m + 1 ≠ longL ls ls.length := fun hh => by
          rw [← hh, Nat.pow_succ] at hfe
          omega
        rcases readL_full h15 hs hL hX f (m + 1) (a + 1) (2 * code + b) (by omega) (by omega) (by rw [Nat.pow_succ]; omega) (by omega) s e a' hr with ⟨a1, a2, a3, a4, a5⟩ | ⟨a1, a2⟩
        · exact .inl ⟨a1, a2, a3, by omega, a5⟩
        · exact .inr ⟨a1, by omega⟩
theorem used_pos {ls : List Nat} (h : 0 < usedL ls) : 0 < longL ls ls.length := by
  unfold usedL at h
  obtain ⟨x, hx⟩ := List.exists_mem_of_length_pos h
  rw [List.mem_filter] at hx
  obtain ⟨s, hs⟩ := List.getElem?_of_mem hx.1
  have hlt := (List.getElem?_eq_some_iff.1 hs).1
  have := long_ge (ls := ls) ls.length s hlt
  rw [List.getD_eq_getElem?_getD, hs] at this
  simp only [Option.getD_some] at this
  have h0 : 0 < x := by simpa using hx.2
  omega
theorem sums_law {nl nl2 : Bool} {l l2 : Nat} {xs : List Int} {bs : List Nat} (hl : l = xs.length) (hl2 : l2 = bs.length) (hnl : nl = true → xs = []) (hb : xs.length ≤ 140737488355328) (hb2 : bs.length ≤ 140737488355328) (hb8 : ∀ b ∈ bs, b < 256) (hK : ∀ h', K (.sc (.bool (true))) h') : VC Try.prog GL (n + 8) 6 [.isl nl l (xs.map (ivI .i64)), .isl nl2 l2 (bs.map (iv .u8))] h K := by
  refine VC_go Try.func6 rfl (by decide) Try.ntmps6 Try.results6 rfl fun Q hq hn => ?_
  subst hl hl2
  repeat (first | (simp (maxSteps := 1000000) only [↓reduceIte, go_sem]) | (simp (maxSteps := 1000000) (disch := first | omega | assumption) only [BB]) | with_reducible refine Gst.now ?_ | with_reducible refine vawp_draw mixed (by kernel_rfl) ?_ | with_reducible first | refine lwV_out ?_ | refine lwV_out0 ?_ | refine lkC_out ?_ | refine And.intro (by omega) ?_ | fail)
  with_reducible refine call_ok ?_
  refine alive_v ?_
  repeat (first | (simp (maxSteps := 1000000) only [↓reduceIte, go_sem]) | (simp (maxSteps := 1000000) (disch := first | omega | assumption) only [BB]) | with_reducible refine vawp_draw mixed (by kernel_rfl) ?_ | with_reducible first | refine lwV_out ?_ | refine lwV_out0 ?_ | refine lkC_out ?_ | refine And.intro (by omega) ?_ | fail)
  first | (with_reducible refine Gst.now ?_) | (with_reducible refine lkC_out ?_; simp only [vawp_skip_eq, thenV_normal]; with_reducible refine Gst.now ?_) | (with_reducible refine lkC_out ?_)
  repeat (first | (simp (maxSteps := 1000000) only [↓reduceIte, go_sem]) | (simp (maxSteps := 1000000) (disch := first | omega | assumption) only [BB]) | with_reducible refine vawp_draw mixed (by kernel_rfl) ?_ | with_reducible first | refine lwV_out ?_ | refine lwV_out0 ?_ | refine lkC_out ?_ | refine And.intro (by omega) ?_ | fail)
  first | (with_reducible refine Gst.now ?_) | (with_reducible refine lkC_out ?_; simp only [vawp_skip_eq, thenV_normal]; with_reducible refine Gst.now ?_) | (with_reducible refine lkC_out ?_)
  try simp only [vawp_seq_eq, vawp_block_eq]
  with_reducible refine vawp_regq ?_
  simp only [List.toList_toArray]
  repeat (first | (apply vopsQ_pk; (case hd => rfl); (case h1 => simp (disch := first | omega | assumption) only [↓reduceIte, go_sem]); (case h2 => simp (disch := first | omega | assumption) only [↓reduceIte, go_sem]); (case h3 => simp (disch := first | omega | assumption) only [↓reduceIte, go_sem]); (case hb => simp (disch := first | omega | assumption) only [↓reduceIte, go_sem]); (try simp (disch := first | omega | assumption) only [↓reduceIte, go_sem])) | (apply vopsQ_n; (case hd => rfl); (case hq => (intro K' hk'; repeat (first | simp (maxSteps := 4000000) (disch := first | omega | assumption) only [↓reduceIte, go_sem] | with_reducible refine Gst.now ?_ | with_reducible refine vawp_draw mixed (by kernel_rfl) ?_ | with_reducible first | refine lwV_out ?_ | refine lwV_out0 ?_ | refine lkC_out ?_ | refine And.intro (by omega) ?_ | fail); exact hk'))) | (apply vopsQ_gt; (case hd => rfl); (case h1 => rfl); (case h2 => rfl); (case h3 => simp (disch := first | omega | assumption) only [↓reduceIte, go_sem]); (case hq => (intro K' hk'; repeat (first | simp (maxSteps := 4000000) (disch := first | omega | assumption) only [↓reduceIte, go_sem] | with_reducible refine Gst.now ?_ | with_reducible refine vawp_draw mixed (by kernel_rfl) ?_ | with_reducible first | refine lwV_out ?_ | refine lwV_out0 ?_ | refine lkC_out ?_ | refine And.intro (by omega) ?_ | fail); exact hk'))) | (apply vopsQ_gf'; (case hd => rfl); (case h1 => rfl); (case h2 => rfl); (case h3 => simp (disch := first | omega | assumption) only [↓reduceIte, go_sem])) | (apply vopsQ_gj; (case hd => rfl); (case h1 => rfl); (case h2 => rfl); (case h3 => simp (disch := first | omega | assumption) only [↓reduceIte, go_sem])) | (apply vopsQ_gpk; (case hd => rfl); (case h1 => rfl); (case h2 => rfl); (case h3 => simp (disch := first | omega | assumption) only [↓reduceIte, go_sem]); (case k1 => simp (disch := first | omega | assumption) only [↓reduceIte, go_sem]); (case k2 => simp (disch := first | omega | assumption) only [↓reduceIte, go_sem]); (case k3 => simp (disch := first | omega | assumption) only [↓reduceIte, go_sem]); (case hb => (intro hc; (try simp (disch := first | omega | assumption) only [↓reduceIte, go_sem] at hc); simp (disch := first | omega | assumption) only [↓reduceIte, go_sem, hc])); (try simp (disch := first | omega | assumption) only [↓reduceIte, go_sem])) | (apply vopsQ_gu; (case hd => rfl); (case h1 => rfl); (case h2 => rfl); (case h3 => simp (disch := first | omega | assumption) only [↓reduceIte, go_sem]); (case hq => (intro hc K' hk'; (try simp (disch := first | omega | assumption) only [↓reduceIte, go_sem] at hc); repeat (first | simp (maxSteps := 4000000) (disch := first | omega | assumption) only [↓reduceIte, go_sem, hc] | with_reducible refine Gst.now ?_ | with_reducible refine vawp_draw mixed (by kernel_rfl) ?_ | with_reducible first | refine lwV_out ?_ | refine lwV_out0 ?_ | refine lkC_out ?_ | refine And.intro (by omega) ?_ | fail); exact hk')); (try simp (disch := first | omega | assumption) only [↓reduceIte, go_sem])) | fail)
  simp only [vopsQ_nil]
  repeat (first | (simp (maxSteps := 1000000) only [↓reduceIte, go_sem]) | (simp (maxSteps := 1000000) (disch := first | omega | assumption) only [BB]) | with_reducible refine Gst.now ?_ | with_reducible refine vawp_draw mixed (by kernel_rfl) ?_ | with_reducible first | refine lwV_out ?_ | refine lwV_out0 ?_ | refine lkC_out ?_ | refine And.intro (by omega) ?_ | fail)
  split
  · repeat (first | (simp (maxSteps := 1000000) only [↓reduceIte, go_sem]) | (simp (maxSteps := 1000000) (disch := first | omega | assumption) only [BB]) | with_reducible refine Gst.now ?_ | with_reducible refine vawp_draw mixed (by kernel_rfl) ?_ | with_reducible first | refine lwV_out ?_ | refine lwV_out0 ?_ | refine lkC_out ?_ | refine And.intro (by omega) ?_ | fail)
    refine hq _ _ ?_
    repeat (first | (simp (maxSteps := 1000000) only [↓reduceIte, go_sem]) | (simp (maxSteps := 1000000) (disch := first | omega | assumption) only [BB]) | with_reducible refine Gst.now ?_ | with_reducible refine vawp_draw mixed (by kernel_rfl) ?_ | with_reducible first | refine lwV_out ?_ | refine lwV_out0 ?_ | refine lkC_out ?_ | refine And.intro (by omega) ?_ | fail)
    exact .now (hK _)
  · rename_i hlim
    simp only [Bool.or_eq_true, decide_eq_true_eq, not_or, Int.not_lt, Nat.not_lt] at hlim
    repeat (first | (simp (maxSteps := 1000000) only [↓reduceIte, go_sem]) | (simp (maxSteps := 1000000) (disch := first | omega | assumption) only [BB]) | with_reducible refine Gst.now ?_ | with_reducible refine vawp_draw mixed (by kernel_rfl) ?_ | with_reducible first | refine lwV_out ?_ | refine lwV_out0 ?_ | refine lkC_out ?_ | refine And.intro (by omega) ?_ | fail)
    refine call_ok (new_v rfl hnl hb (fun hc0 => ?_) (fun hc0 => ?_))
    · have e1 : (chkL xs = 0) = False := eq_false hc0
      repeat (first | (simp (maxSteps := 1000000) only [↓reduceIte, go_sem, e1]) | (simp (maxSteps := 1000000) (disch := first | omega | assumption) only [BB, e1]) | with_reducible refine Gst.now ?_ | with_reducible refine vawp_draw mixed (by kernel_rfl) ?_ | with_reducible first | refine lwV_out ?_ | refine lwV_out0 ?_ | refine lkC_out ?_ | refine And.intro (by omega) ?_ | fail)
      refine vawp_loop (k := xs.length) (fun c ρ h1 => ∃ (i u : Nat) (g : Int), c + i = xs.length ∧ ρ 6 = (.sc (.int .i64 ((chkL xs : Nat)))) ∧ ρ 7 = (.sc (.int .i64 ((u : Nat)))) ∧ ρ 8 = (.sc (.int .i64 (g))) ∧ u ≤ i ∧ ρ 32 = .isl nl xs.length (xs.map (ivI .i64)) ∧ ρ 33 = (.sc (.int .i64 ((xs.length : Nat)))) ∧ ρ 34 = (.sc (.int .i64 ((i : Nat)))) ∧ h1 = h) ?_ ?_
      · refine ⟨0, 0, 0, by omega, ?_⟩
        repeat (first | (simp (maxSteps := 1000000) only [↓reduceIte, go_sem, e1]) | (simp (maxSteps := 1000000) (disch := first | omega | assumption) only [BB, e1]) | with_reducible refine Gst.now ?_ | with_reducible refine vawp_draw mixed (by kernel_rfl) ?_ | with_reducible first | refine lwV_out ?_ | refine lwV_out0 ?_ | refine lkC_out ?_ | refine And.intro (by omega) ?_ | fail)
      · rintro c ρ h1 ⟨i, u, g, hc, g6, g7, g8, hu, g32, g33, g34, rfl⟩
        by_cases hi : i < xs.length
        · have e2 := eq_true hi
          repeat (first | (simp (maxSteps := 1000000) only [↓reduceIte, go_sem, e1, g6, g7, g8, g32, g33, g34, e2]) | (simp (maxSteps := 1000000) (disch := first | omega | assumption) only [BB, e1, g6, g7, g8, g32, g33, g34, e2]) | with_reducible refine Gst.now ?_ | with_reducible refine vawp_draw mixed (by kernel_rfl) ?_ | with_reducible first | refine lwV_out ?_ | refine lwV_out0 ?_ | refine lkC_out ?_ | refine And.intro (by omega) ?_ | fail)
          split
          · repeat (first | (simp (maxSteps := 1000000) only [↓reduceIte, go_sem, e1, g6, g7, g8, g32, g33, g34, e2]) | (simp (maxSteps := 1000000) (disch := first | omega | assumption) only [BB, e1, g6, g7, g8, g32, g33, g34, e2]) | with_reducible refine Gst.now ?_ | with_reducible refine vawp_draw mixed (by kernel_rfl) ?_ | with_reducible first | refine lwV_out ?_ | refine lwV_out0 ?_ | refine lkC_out ?_ | refine And.intro (by omega) ?_ | fail)
            exact ⟨c - 1, by omega, i + 1, u + 1, _, by omega, rfl, rfl, by omega, rfl⟩
          · repeat (first | (simp (maxSteps := 1000000) only [↓reduceIte, go_sem, e1, g6, g7, g8, g32, g33, g34, e2]) | (simp (maxSteps := 1000000) (disch := first | omega | assumption) only [BB, e1, g6, g7, g8, g32, g33, g34, e2]) | with_reducible refine Gst.now ?_ | with_reducible refine vawp_draw mixed (by kernel_rfl) ?_ | with_reducible first | refine lwV_out ?_ | refine lwV_out0 ?_ | refine lkC_out ?_ | refine And.intro (by omega) ?_ | fail)
            exact ⟨c - 1, by omega, i + 1, u, g, by omega, rfl, rfl, by omega, rfl⟩
        · have e2 := eq_false hi
          have e3 : (chkL xs != 0) = true := by simpa using hc0
          repeat (first | (simp (maxSteps := 1000000) only [↓reduceIte, go_sem, e1, g6, g7, g8, g32, g33, g34, e2, e3]) | (simp (maxSteps := 1000000) (disch := first | omega | assumption) only [BB, e1, g6, g7, g8, g32, g33, g34, e2, e3]) | with_reducible refine vawp_draw mixed (by kernel_rfl) ?_ | with_reducible first | refine lwV_out ?_ | refine lwV_out0 ?_ | refine lkC_out ?_ | refine And.intro (by omega) ?_ | fail)
          first | (with_reducible refine Gst.now ?_) | (with_reducible refine lkC_out ?_; simp only [vawp_skip_eq, thenV_normal]; with_reducible refine Gst.now ?_) | (with_reducible refine lkC_out ?_)
          repeat (first | (simp (maxSteps := 1000000) only [↓reduceIte, go_sem, e1, g6, g7, g8, g32, g33, g34, e2, e3]) | (simp (maxSteps := 1000000) (disch := first | omega | assumption) only [BB, e1, g6, g7, g8, g32, g33, g34, e2, e3]) | with_reducible refine vawp_draw mixed (by kernel_rfl) ?_ | with_reducible first | refine lwV_out ?_ | refine lwV_out0 ?_ | refine lkC_out ?_ | refine And.intro (by omega) ?_ | fail)
          first | (with_reducible refine Gst.now ?_) | (with_reducible refine lkC_out ?_; simp only [vawp_skip_eq, thenV_normal]; with_reducible refine Gst.now ?_) | (with_reducible refine lkC_out ?_)
          try simp only [vawp_seq_eq, vawp_block_eq]
          with_reducible refine vawp_regq ?_
          simp only [List.toList_toArray]
          repeat (first | (apply vopsQ_pk; (case hd => rfl); (case h1 => simp (disch := first | omega | assumption) only [↓reduceIte, go_sem, e1, g6, g7, g8, g32, g33, g34, e2, e3]); (case h2 => simp (disch := first | omega | assumption) only [↓reduceIte, go_sem, e1, g6, g7, g8, g32, g33, g34, e2, e3]); (case h3 => simp (disch := first | omega | assumption) only [↓reduceIte, go_sem, e1, g6, g7, g8, g32, g33, g34, e2, e3]); (case hb => simp (disch := first | omega | assumption) only [↓reduceIte, go_sem, e1, g6, g7, g8, g32, g33, g34, e2, e3]); (try simp (disch := first | omega | assumption) only [↓reduceIte, go_sem, e1, g6, g7, g8, g32, g33, g34, e2, e3])) | (apply vopsQ_n; (case hd => rfl); (case hq => (intro K' hk'; repeat (first | simp (maxSteps := 4000000) (disch := first | omega | assumption) only [↓reduceIte, go_sem, e1, g6, g7, g8, g32, g33, g34, e2, e3] | with_reducible refine Gst.now ?_ | with_reducible refine vawp_draw mixed (by kernel_rfl) ?_ | with_reducible first | refine lwV_out ?_ | refine lwV_out0 ?_ | refine lkC_out ?_ | refine And.intro (by omega) ?_ | fail); exact hk'))) | (apply vopsQ_gt; (case hd => rfl); (case h1 => rfl); (case h2 => rfl); (case h3 => simp (disch := first | omega | assumption) only [↓reduceIte, go_sem]); (case hq => (intro K' hk'; repeat (first | simp (maxSteps := 4000000) (disch := first | omega | assumption) only [↓reduceIte, go_sem, e1, g6, g7, g8, g32, g33, g34, e2, e3] | with_reducible refine Gst.now ?_ | with_reducible refine vawp_draw mixed (by kernel_rfl) ?_ | with_reducible first | refine lwV_out ?_ | refine lwV_out0 ?_ | refine lkC_out ?_ | refine And.intro (by omega) ?_ | fail); exact hk'))) | (apply vopsQ_gf'; (case hd => rfl); (case h1 => rfl); (case h2 => rfl); (case h3 => simp (disch := first | omega | assumption) only [↓reduceIte, go_sem, e1, g6, g7, g8, g32, g33, g34, e2, e3])) | (apply vopsQ_gj; (case hd => rfl); (case h1 => rfl); (case h2 => rfl); (case h3 => simp (disch := first | omega | assumption) only [↓reduceIte, go_sem, e1, g6, g7, g8, g32, g33, g34, e2, e3])) | (apply vopsQ_gpk; (case hd => rfl); (case h1 => rfl); (case h2 => rfl); (case h3 => simp (disch := first | omega | assumption) only [↓reduceIte, go_sem, e1, g6, g7, g8, g32, g33, g34, e2, e3]); (case k1 => simp (disch := first | omega | assumption) only [↓reduceIte, go_sem, e1, g6, g7, g8, g32, g33, g34, e2, e3]); (case k2 => simp (disch := first | omega | assumption) only [↓reduceIte, go_sem, e1, g6, g7, g8, g32, g33, g34, e2, e3]); (case k3 => simp (disch := first | omega | assumption) only [↓reduceIte, go_sem, e1, g6, g7, g8, g32, g33, g34, e2, e3]); (case hb => (intro hc; (try simp (disch := first | omega | assumption) only [↓reduceIte, go_sem, e1, g6, g7, g8, g32, g33, g34, e2, e3] at hc); simp (disch := first | omega | assumption) only [↓reduceIte, go_sem, hc, e1, g6, g7, g8, g32, g33, g34, e2, e3])); (try simp (disch := first | omega | assumption) only [↓reduceIte, go_sem, e1, g6, g7, g8, g32, g33, g34, e2, e3])) | (apply vopsQ_gu; (case hd => rfl); (case h1 => rfl); (case h2 => rfl); (case h3 => simp (disch := first | omega | assumption) only [↓reduceIte, go_sem, e1, g6, g7, g8, g32, g33, g34, e2, e3]); (case hq => (intro hc K' hk'; (try simp (disch := first | omega | assumption) only [↓reduceIte, go_sem, e1, g6, g7, g8, g32, g33, g34, e2, e3] at hc); repeat (first | simp (maxSteps := 4000000) (disch := first | omega | assumption) only [↓reduceIte, go_sem, hc, e1, g6, g7, g8, g32, g33, g34, e2, e3] | with_reducible refine Gst.now ?_ | with_reducible refine vawp_draw mixed (by kernel_rfl) ?_ | with_reducible first | refine lwV_out ?_ | refine lwV_out0 ?_ | refine lkC_out ?_ | refine And.intro (by omega) ?_ | fail); exact hk')); (try simp (disch := first | omega | assumption) only [↓reduceIte, go_sem, e1, g6, g7, g8, g32, g33, g34, e2, e3])) | fail)
          simp only [vopsQ_nil]
          repeat (first | (simp (maxSteps := 1000000) only [↓reduceIte, go_sem, e1, g6, g7, g8, g32, g33, g34, e2, e3]) | (simp (maxSteps := 1000000) (disch := first | omega | assumption) only [BB, e1, g6, g7, g8, g32, g33, g34, e2, e3]) | with_reducible refine Gst.now ?_ | with_reducible refine vawp_draw mixed (by kernel_rfl) ?_ | with_reducible first | refine lwV_out ?_ | refine lwV_out0 ?_ | refine lkC_out ?_ | refine And.intro (by omega) ?_ | fail)
          refine hq _ _ ?_
          repeat (first | (simp (maxSteps := 1000000) only [↓reduceIte, go_sem, e1, g6, g7, g8, g32, g33, g34, e2, e3]) | (simp (maxSteps := 1000000) (disch := first | omega | assumption) only [BB, e1, g6, g7, g8, g32, g33, g34, e2, e3]) | with_reducible refine Gst.now ?_ | with_reducible refine vawp_draw mixed (by kernel_rfl) ?_ | with_reducible first | refine lwV_out ?_ | refine lwV_out0 ?_ | refine lkC_out ?_ | refine And.intro (by omega) ?_ | fail)
          exact .now (hK _)
    · obtain ⟨ls, hls, h15, hb3, hs, hE4⟩ := chk_ok hc0
      have hlen : xs.length = ls.length := by rw [hls, List.length_map]
      have hE3 : xs.map (ivI .i64) = ls.map (iv .i64) := by rw [hls]; exact natL_cells ls
      rw [hE4, hE3, hlen]
      have hchk : chkN ls = 0 := by
        unfold chkL at hc0
        split at hc0
        · cases hc0
        · rw [hE4] at hc0; exact hc0
      generalize hT : tabC nl ls = T
      repeat (first | (simp (maxSteps := 1000000) only [↓reduceIte, go_sem]) | (simp (maxSteps := 1000000) (disch := first | omega | assumption) only [BB]) | with_reducible refine Gst.now ?_ | with_reducible refine vawp_draw mixed (by kernel_rfl) ?_ | with_reducible first | refine lwV_out ?_ | refine lwV_out0 ?_ | refine lkC_out ?_ | refine And.intro (by omega) ?_ | fail)
      refine vawp_loop (k := ls.length) (fun c ρ h1 => ∃ i : Nat, c + i = ls.length ∧ ρ 0 = .isl nl ls.length (ls.map (iv .i64)) ∧ ρ 1 = .isl nl2 bs.length (bs.map (iv .u8)) ∧ ρ 5 = .ip T 0 ∧ ρ 6 = (.sc (.int .i64 (0))) ∧ ρ 7 = (.sc (.int .i64 ((usedL (ls.take i) : Nat)))) ∧ ρ 8 = (.sc (.int .i64 ((longL ls i : Nat)))) ∧ ρ 32 = .isl nl ls.length (ls.map (iv .i64)) ∧ ρ 33 = (.sc (.int .i64 ((ls.length : Nat)))) ∧ ρ 34 = (.sc (.int .i64 ((i : Nat)))) ∧ h1 = h) ?_ ?_
      · refine ⟨0, by omega, ?_⟩
        repeat (first | (simp (maxSteps := 1000000) only [↓reduceIte, go_sem]) | (simp (maxSteps := 1000000) (disch := first | omega | assumption) only [BB]) | with_reducible refine Gst.now ?_ | with_reducible refine vawp_draw mixed (by kernel_rfl) ?_ | with_reducible first | refine lwV_out ?_ | refine lwV_out0 ?_ | refine lkC_out ?_ | refine And.intro (by omega) ?_ | fail)
        exact ⟨rfl, rfl⟩
      · rintro c ρ h1 ⟨i, hc, g0, g1, g5, g6, g7, g8, g32, g33, g34, rfl⟩
        by_cases hi : i < ls.length
        · have e2 := eq_true hi
          have htk := used_take hi
          have hln : longL ls (i + 1) = if longL ls i < ls.getD i 0 then ls.getD i 0 else longL ls i := rfl
          have hul : usedL (ls.take i) ≤ i := Nat.le_trans (List.length_filter_le _ _) (by rw [List.length_take]; omega)
          generalize usedL (ls.take i) = u at *
          repeat (first | (simp (maxSteps := 1000000) only [↓reduceIte, go_sem, g0, g1, g5, g6, g7, g8, g32, g33, g34, e2]) | (simp (maxSteps := 1000000) (disch := first | omega | assumption) only [BB, g0, g1, g5, g6, g7, g8, g32, g33, g34, e2]) | with_reducible refine Gst.now ?_ | with_reducible refine vawp_draw mixed (by kernel_rfl) ?_ | with_reducible first | refine lwV_out ?_ | refine lwV_out0 ?_ | refine lkC_out ?_ | refine And.intro (by omega) ?_ | fail)
          split
          · rename_i h0
            rw [if_pos h0] at htk
            repeat (first | (simp (maxSteps := 1000000) only [↓reduceIte, go_sem, g0, g1, g5, g6, g7, g8, g32, g33, g34, e2]) | (simp (maxSteps := 1000000) (disch := first | omega | assumption) only [BB, g0, g1, g5, g6, g7, g8, g32, g33, g34, e2]) | with_reducible refine Gst.now ?_ | with_reducible refine vawp_draw mixed (by kernel_rfl) ?_ | with_reducible first | refine lwV_out ?_ | refine lwV_out0 ?_ | refine lkC_out ?_ | refine And.intro (by omega) ?_ | fail)
            exact ⟨c - 1, by omega, i + 1, by omega, by rw [htk], hln.symm, rfl⟩
          · rename_i h0
            rw [if_neg h0] at htk
            repeat (first | (simp (maxSteps := 1000000) only [↓reduceIte, go_sem, g0, g1, g5, g6, g7, g8, g32, g33, g34, e2]) | (simp (maxSteps := 1000000) (disch := first | omega | assumption) only [BB, g0, g1, g5, g6, g7, g8, g32, g33, g34, e2]) | with_reducible refine Gst.now ?_ | with_reducible refine vawp_draw mixed (by kernel_rfl) ?_ | with_reducible first | refine lwV_out ?_ | refine lwV_out0 ?_ | refine lkC_out ?_ | refine And.intro (by omega) ?_ | fail)
            exact ⟨c - 1, by omega, i + 1, by omega, by rw [htk]; rfl, by rw [hln, if_neg (by omega)], rfl⟩
        · have e2 := eq_false hi
          have hii : i = ls.length := by omega
          rw [hii, List.take_length] at g7
          rw [hii] at g8
          by_cases hu2 : usedL ls < 2
          · have e3 := eq_true hu2
            have e4 := decide_eq_true hu2
            repeat (first | (simp (maxSteps := 1000000) only [↓reduceIte, go_sem, g0, g1, g5, g6, g7, g8, g32, g33, g34, e2, e3, e4]) | (simp (maxSteps := 1000000) (disch := first | omega | assumption) only [BB, g0, g1, g5, g6, g7, g8, g32, g33, g34, e2, e3, e4]) | with_reducible refine vawp_draw mixed (by kernel_rfl) ?_ | with_reducible first | refine lwV_out ?_ | refine lwV_out0 ?_ | refine lkC_out ?_ | refine And.intro (by omega) ?_ | fail)
            first | (with_reducible refine Gst.now ?_) | (with_reducible refine lkC_out ?_; simp only [vawp_skip_eq, thenV_normal]; with_reducible refine Gst.now ?_) | (with_reducible refine lkC_out ?_)
            repeat (first | (simp (maxSteps := 1000000) only [↓reduceIte, go_sem, g0, g1, g5, g6, g7, g8, g32, g33, g34, e2, e3, e4]) | (simp (maxSteps := 1000000) (disch := first | omega | assumption) only [BB, g0, g1, g5, g6, g7, g8, g32, g33, g34, e2, e3, e4]) | with_reducible refine vawp_draw mixed (by kernel_rfl) ?_ | with_reducible first | refine lwV_out ?_ | refine lwV_out0 ?_ | refine lkC_out ?_ | refine And.intro (by omega) ?_ | fail)
            first | (with_reducible refine Gst.now ?_) | (with_reducible refine lkC_out ?_; simp only [vawp_skip_eq, thenV_normal]; with_reducible refine Gst.now ?_) | (with_reducible refine lkC_out ?_)
            try simp only [vawp_seq_eq, vawp_block_eq]
            with_reducible refine vawp_regq ?_
            simp only [List.toList_toArray]
            repeat (first | (apply vopsQ_pk; (case hd => rfl); (case h1 => simp (disch := first | omega | assumption) only [↓reduceIte, go_sem, g0, g1, g5, g6, g7, g8, g32, g33, g34, e2, e3, e4]); (case h2 => simp (disch := first | omega | assumption) only [↓reduceIte, go_sem, g0, g1, g5, g6, g7, g8, g32, g33, g34, e2, e3, e4]); (case h3 => simp (disch := first | omega | assumption) only [↓reduceIte, go_sem, g0, g1, g5, g6, g7, g8, g32, g33, g34, e2, e3, e4]); (case hb => simp (disch := first | omega | assumption) only [↓reduceIte, go_sem, g0, g1, g5, g6, g7, g8, g32, g33, g34, e2, e3, e4]); (try simp (disch := first | omega | assumption) only [↓reduceIte, go_sem, g0, g1, g5, g6, g7, g8, g32, g33, g34, e2, e3, e4])) | (apply vopsQ_n; (case hd => rfl); (case hq => (intro K' hk'; repeat (first | simp (maxSteps := 4000000) (disch := first | omega | assumption) only [↓reduceIte, go_sem, g0, g1, g5, g6, g7, g8, g32, g33, g34, e2, e3, e4] | with_reducible refine Gst.now ?_ | with_reducible refine vawp_draw mixed (by kernel_rfl) ?_ | with_reducible first | refine lwV_out ?_ | refine lwV_out0 ?_ | refine lkC_out ?_ | refine And.intro (by omega) ?_ | fail); exact hk'))) | (apply vopsQ_gt; (case hd => rfl); (case h1 => rfl); (case h2 => rfl); (case h3 => simp (disch := first | omega | assumption) only [↓reduceIte, go_sem]); (case hq => (intro K' hk'; repeat (first | simp (maxSteps := 4000000) (disch := first | omega | assumption) only [↓reduceIte, go_sem, g0, g1, g5, g6, g7, g8, g32, g33, g34, e2, e3, e4] | with_reducible refine Gst.now ?_ | with_reducible refine vawp_draw mixed (by kernel_rfl) ?_ | with_reducible first | refine lwV_out ?_ | refine lwV_out0 ?_ | refine lkC_out ?_ | refine And.intro (by omega) ?_ | fail); exact hk'))) | (apply vopsQ_gf'; (case hd => rfl); (case h1 => rfl); (case h2 => rfl); (case h3 => simp (disch := first | omega | assumption) only [↓reduceIte, go_sem, g0, g1, g5, g6, g7, g8, g32, g33, g34, e2, e3, e4])) | (apply vopsQ_gj; (case hd => rfl); (case h1 => rfl); (case h2 => rfl); (case h3 => simp (disch := first | omega | assumption) only [↓reduceIte, go_sem, g0, g1, g5, g6, g7, g8, g32, g33, g34, e2, e3, e4])) | (apply vopsQ_gpk; (case hd => rfl); (case h1 => rfl); (case h2 => rfl); (case h3 => simp (disch := first | omega | assumption) only [↓reduceIte, go_sem, g0, g1, g5, g6, g7, g8, g32, g33, g34, e2, e3, e4]); (case k1 => simp (disch := first | omega | assumption) only [↓reduceIte, go_sem, g0, g1, g5, g6, g7, g8, g32, g33, g34, e2, e3, e4]); (case k2 => simp (disch := first | omega | assumption) only [↓reduceIte, go_sem, g0, g1, g5, g6, g7, g8, g32, g33, g34, e2, e3, e4]); (case k3 => simp (disch := first | omega | assumption) only [↓reduceIte, go_sem, g0, g1, g5, g6, g7, g8, g32, g33, g34, e2, e3, e4]); (case hb => (intro hc; (try simp (disch := first | omega | assumption) only [↓reduceIte, go_sem, g0, g1, g5, g6, g7, g8, g32, g33, g34, e2, e3, e4] at hc); simp (disch := first | omega | assumption) only [↓reduceIte, go_sem, hc, g0, g1, g5, g6, g7, g8, g32, g33, g34, e2, e3, e4])); (try simp (disch := first | omega | assumption) only [↓reduceIte, go_sem, g0, g1, g5, g6, g7, g8, g32, g33, g34, e2, e3, e4])) | (apply vopsQ_gu; (case hd => rfl); (case h1 => rfl); (case h2 => rfl); (case h3 => simp (disch := first | omega | assumption) only [↓reduceIte, go_sem, g0, g1, g5, g6, g7, g8, g32, g33, g34, e2, e3, e4]); (case hq => (intro hc K' hk'; (try simp (disch := first | omega | assumption) only [↓reduceIte, go_sem, g0, g1, g5, g6, g7, g8, g32, g33, g34, e2, e3, e4] at hc); repeat (first | simp (maxSteps := 4000000) (disch := first | omega | assumption) only [↓reduceIte, go_sem, hc, g0, g1, g5, g6, g7, g8, g32, g33, g34, e2, e3, e4] | with_reducible refine Gst.now ?_ | with_reducible refine vawp_draw mixed (by kernel_rfl) ?_ | with_reducible first | refine lwV_out ?_ | refine lwV_out0 ?_ | refine lkC_out ?_ | refine And.intro (by omega) ?_ | fail); exact hk')); (try simp (disch := first | omega | assumption) only [↓reduceIte, go_sem, g0, g1, g5, g6, g7, g8, g32, g33, g34, e2, e3, e4])) | fail)
            simp only [vopsQ_nil]
            repeat (first | (simp (maxSteps := 1000000) only [↓reduceIte, go_sem, g0, g1, g5, g6, g7, g8, g32, g33, g34, e2, e3, e4]) | (simp (maxSteps := 1000000) (disch := first | omega | assumption) only [BB, g0, g1, g5, g6, g7, g8, g32, g33, g34, e2, e3, e4]) | with_reducible refine Gst.now ?_ | with_reducible refine vawp_draw mixed (by kernel_rfl) ?_ | with_reducible first | refine lwV_out ?_ | refine lwV_out0 ?_ | refine lkC_out ?_ | refine And.intro (by omega) ?_ | fail)
            refine hq _ _ ?_
            repeat (first | (simp (maxSteps := 1000000) only [↓reduceIte, go_sem, g0, g1, g5, g6, g7, g8, g32, g33, g34, e2, e3, e4]) | (simp (maxSteps := 1000000) (disch := first | omega | assumption) only [BB, g0, g1, g5, g6, g7, g8, g32, g33, g34, e2, e3, e4]) | with_reducible refine Gst.now ?_ | with_reducible refine vawp_draw mixed (by kernel_rfl) ?_ | with_reducible first | refine lwV_out ?_ | refine lwV_out0 ?_ | refine lkC_out ?_ | refine And.intro (by omega) ?_ | fail)
            exact .now (hK _)
          · have e3 := eq_false hu2
            have e4 := decide_eq_false hu2
            have hfull : sumL ls = 32768 := by
              unfold chkN at hchk
              rw [if_pos hs] at hchk
              split at hchk
              · omega
              · cases hchk
            have hL0 := used_pos (ls := ls) (by omega)
            have hrf := readL_full (X := bitsOf bs) h15 hfull hL0 (fun i => by
              rw [List.getD_eq_getElem?_getD]
              cases hx : (bitsOf bs)[i]? with
              | none => simp
              | some x => exact bitsOf_bits bs x (List.mem_of_getElem? hx)) 16 0
            rw [bitsOf_len] at hrf
            have hlg := long_le h15 ls.length
            generalize longL ls ls.length = L at *
            repeat (first | (simp (maxSteps := 1000000) only [↓reduceIte, go_sem, g0, g1, g5, g6, g7, g8, g32, g33, g34, e2, e3, e4]) | (simp (maxSteps := 1000000) (disch := first | omega | assumption) only [BB, g0, g1, g5, g6, g7, g8, g32, g33, g34, e2, e3, e4]) | with_reducible refine vawp_draw mixed (by kernel_rfl) ?_ | with_reducible first | refine lwV_out ?_ | refine lwV_out0 ?_ | refine lkC_out ?_ | refine And.intro (by omega) ?_ | fail)
            first | (with_reducible refine Gst.now ?_) | (with_reducible refine lkC_out ?_; simp only [vawp_skip_eq, thenV_normal]; with_reducible refine Gst.now ?_) | (with_reducible refine lkC_out ?_)
            repeat (first | (simp (maxSteps := 1000000) only [↓reduceIte, go_sem, g0, g1, g5, g6, g7, g8, g32, g33, g34, e2, e3, e4]) | (simp (maxSteps := 1000000) (disch := first | omega | assumption) only [BB, g0, g1, g5, g6, g7, g8, g32, g33, g34, e2, e3, e4]) | with_reducible refine vawp_draw mixed (by kernel_rfl) ?_ | with_reducible first | refine lwV_out ?_ | refine lwV_out0 ?_ | refine lkC_out ?_ | refine And.intro (by omega) ?_ | fail)
            first | (with_reducible refine Gst.now ?_) | (with_reducible refine lkC_out ?_; simp only [vawp_skip_eq, thenV_normal]; with_reducible refine Gst.now ?_) | (with_reducible refine lkC_out ?_)
            try simp only [vawp_seq_eq, vawp_block_eq]
            with_reducible refine vawp_regq ?_
            simp only [List.toList_toArray]
            repeat (first | (apply vopsQ_pk; (case hd => rfl); (case h1 => simp (disch := first | omega | assumption) only [↓reduceIte, go_sem, g0, g1, g5, g6, g7, g8, g32, g33, g34, e2, e3, e4]); (case h2 => simp (disch := first | omega | assumption) only [↓reduceIte, go_sem, g0, g1, g5, g6, g7, g8, g32, g33, g34, e2, e3, e4]); (case h3 => simp (disch := first | omega | assumption) only [↓reduceIte, go_sem, g0, g1, g5, g6, g7, g8, g32, g33, g34, e2, e3, e4]); (case hb => simp (disch := first | omega | assumption) only [↓reduceIte, go_sem, g0, g1, g5, g6, g7, g8, g32, g33, g34, e2, e3, e4]); (try simp (disch := first | omega | assumption) only [↓reduceIte, go_sem, g0, g1, g5, g6, g7, g8, g32, g33, g34, e2, e3, e4])) | (apply vopsQ_n; (case hd => rfl); (case hq => (intro K' hk'; repeat (first | simp (maxSteps := 4000000) (disch := first | omega | assumption) only [↓reduceIte, go_sem, g0, g1, g5, g6, g7, g8, g32, g33, g34, e2, e3, e4] | with_reducible refine Gst.now ?_ | with_reducible refine vawp_draw mixed (by kernel_rfl) ?_ | with_reducible first | refine lwV_out ?_ | refine lwV_out0 ?_ | refine lkC_out ?_ | refine And.intro (by omega) ?_ | fail); exact hk'))) | (apply vopsQ_gt; (case hd => rfl); (case h1 => rfl); (case h2 => rfl); (case h3 => simp (disch := first | omega | assumption) only [↓reduceIte, go_sem]); (case hq => (intro K' hk'; repeat (first | simp (maxSteps := 4000000) (disch := first | omega | assumption) only [↓reduceIte, go_sem, g0, g1, g5, g6, g7, g8, g32, g33, g34, e2, e3, e4] | with_reducible refine Gst.now ?_ | with_reducible refine vawp_draw mixed (by kernel_rfl) ?_ | with_reducible first | refine lwV_out ?_ | refine lwV_out0 ?_ | refine lkC_out ?_ | refine And.intro (by omega) ?_ | fail); exact hk'))) | (apply vopsQ_gf'; (case hd => rfl); (case h1 => rfl); (case h2 => rfl); (case h3 => simp (disch := first | omega | assumption) only [↓reduceIte, go_sem, g0, g1, g5, g6, g7, g8, g32, g33, g34, e2, e3, e4])) | (apply vopsQ_gj; (case hd => rfl); (case h1 => rfl); (case h2 => rfl); (case h3 => simp (disch := first | omega | assumption) only [↓reduceIte, go_sem, g0, g1, g5, g6, g7, g8, g32, g33, g34, e2, e3, e4])) | (apply vopsQ_gpk; (case hd => rfl); (case h1 => rfl); (case h2 => rfl); (case h3 => simp (disch := first | omega | assumption) only [↓reduceIte, go_sem, g0, g1, g5, g6, g7, g8, g32, g33, g34, e2, e3, e4]); (case k1 => simp (disch := first | omega | assumption) only [↓reduceIte, go_sem, g0, g1, g5, g6, g7, g8, g32, g33, g34, e2, e3, e4]); (case k2 => simp (disch := first | omega | assumption) only [↓reduceIte, go_sem, g0, g1, g5, g6, g7, g8, g32, g33, g34, e2, e3, e4]); (case k3 => simp (disch := first | omega | assumption) only [↓reduceIte, go_sem, g0, g1, g5, g6, g7, g8, g32, g33, g34, e2, e3, e4]); (case hb => (intro hc; (try simp (disch := first | omega | assumption) only [↓reduceIte, go_sem, g0, g1, g5, g6, g7, g8, g32, g33, g34, e2, e3, e4] at hc); simp (disch := first | omega | assumption) only [↓reduceIte, go_sem, hc, g0, g1, g5, g6, g7, g8, g32, g33, g34, e2, e3, e4])); (try simp (disch := first | omega | assumption) only [↓reduceIte, go_sem, g0, g1, g5, g6, g7, g8, g32, g33, g34, e2, e3, e4])) | (apply vopsQ_gu; (case hd => rfl); (case h1 => rfl); (case h2 => rfl); (case h3 => simp (disch := first | omega | assumption) only [↓reduceIte, go_sem, g0, g1, g5, g6, g7, g8, g32, g33, g34, e2, e3, e4]); (case hq => (intro hc K' hk'; (try simp (disch := first | omega | assumption) only [↓reduceIte, go_sem, g0, g1, g5, g6, g7, g8, g32, g33, g34, e2, e3, e4] at hc); repeat (first | simp (maxSteps := 4000000) (disch := first | omega | assumption) only [↓reduceIte, go_sem, hc, g0, g1, g5, g6, g7, g8, g32, g33, g34, e2, e3, e4] | with_reducible refine Gst.now ?_ | with_reducible refine vawp_draw mixed (by kernel_rfl) ?_ | with_reducible first | refine lwV_out ?_ | refine lwV_out0 ?_ | refine lkC_out ?_ | refine And.intro (by omega) ?_ | fail); exact hk')); (try simp (disch := first | omega | assumption) only [↓reduceIte, go_sem, g0, g1, g5, g6, g7, g8, g32, g33, g34, e2, e3, e4])) | fail)
            simp only [vopsQ_nil]
            repeat (first | (simp (maxSteps := 1000000) only [↓reduceIte, go_sem, g0, g1, g5, g6, g7, g8, g32, g33, g34, e2, e3, e4]) | (simp (maxSteps := 1000000) (disch := first | omega | assumption) only [BB, g0, g1, g5, g6, g7, g8, g32, g33, g34, e2, e3, e4]) | with_reducible refine Gst.now ?_ | with_reducible refine vawp_draw mixed (by kernel_rfl) ?_ | with_reducible first | refine lwV_out ?_ | refine lwV_out0 ?_ | refine lkC_out ?_ | refine And.intro (by omega) ?_ | fail)
            with_reducible refine call_ok ?_
            refine bread_v rfl fun j hj => ?_
            repeat (first | (simp (maxSteps := 1000000) only [↓reduceIte, go_sem, g0, g1, g5, g6, g7, g8, g32, g33, g34, e2, e3, e4]) | (simp (maxSteps := 1000000) (disch := first | omega | assumption) only [BB, g0, g1, g5, g6, g7, g8, g32, g33, g34, e2, e3, e4]) | with_reducible refine Gst.now ?_ | with_reducible refine vawp_draw mixed (by kernel_rfl) ?_ | with_reducible first | refine lwV_out ?_ | refine lwV_out0 ?_ | refine lkC_out ?_ | refine And.intro (by omega) ?_ | fail)
            refine vawp_loop (k := 8 * bs.length + 1) (fun c ρ h2 => ∃ i at_ : Nat, c + i = 8 * bs.length + 1 ∧ ρ 1 = .isl nl2 bs.length (bs.map (iv .u8)) ∧ ρ 5 = .ip T 0 ∧ ρ 8 = (.sc (.int .i64 ((L : Nat)))) ∧ ρ 11 = .op j 0 ∧ ρ 57 = (.sc (.int .i64 ((8 * bs.length + 1 : Nat)))) ∧ ρ 58 = (.sc (.int .i64 ((i : Nat)))) ∧ i ≤ at_ ∧ at_ ≤ 8 * bs.length ∧ h2 = hset h1 j (.cells 62 false (RdB nl2 bs at_))) ?_ ?_
            · refine ⟨0, 0, by omega, ?_⟩
              repeat (first | (simp (maxSteps := 1000000) only [↓reduceIte, go_sem, g0, g1, g5, g6, g7, g8, g32, g33, g34, e2, e3, e4]) | (simp (maxSteps := 1000000) (disch := first | omega | assumption) only [BB, g0, g1, g5, g6, g7, g8, g32, g33, g34, e2, e3, e4]) | with_reducible refine Gst.now ?_ | with_reducible refine vawp_draw mixed (by kernel_rfl) ?_ | with_reducible first | refine lwV_out ?_ | refine lwV_out0 ?_ | refine lkC_out ?_ | refine And.intro (by omega) ?_ | fail)
            · rintro c ρ h2 ⟨i, at_, hc, g1, g5, g8, g11, g57, g58, hia, hab, rfl⟩
              have hbl : blkV (hset h1 j (.cells 62 false (RdB nl2 bs at_))) j = some (62, RdB nl2 bs at_) := blkV_iff.2 (hset_at _ _ _)
              by_cases hi : i < 8 * bs.length + 1
              · have e5 := eq_true hi
                repeat (first | (simp (maxSteps := 1000000) only [↓reduceIte, go_sem, g0, g1, g5, g6, g7, g8, g32, g33, g34, e2, e3, e4, g11, g57, g58, e5]) | (simp (maxSteps := 1000000) (disch := first | omega | assumption) only [BB, g0, g1, g5, g6, g7, g8, g32, g33, g34, e2, e3, e4, g11, g57, g58, e5]) | with_reducible refine Gst.now ?_ | with_reducible refine vawp_draw mixed (by kernel_rfl) ?_ | with_reducible first | refine lwV_out ?_ | refine lwV_out0 ?_ | refine lkC_out ?_ | refine And.intro (by omega) ?_ | fail)
                with_reducible refine call_ok ?_
                refine rat_v hbl ?_
                repeat (first | (simp (maxSteps := 1000000) only [↓reduceIte, go_sem, g0, g1, g5, g6, g7, g8, g32, g33, g34, e2, e3, e4, g11, g57, g58, e5]) | (simp (maxSteps := 1000000) (disch := first | omega | assumption) only [BB, g0, g1, g5, g6, g7, g8, g32, g33, g34, e2, e3, e4, g11, g57, g58, e5]) | with_reducible refine Gst.now ?_ | with_reducible refine vawp_draw mixed (by kernel_rfl) ?_ | with_reducible first | refine lwV_out ?_ | refine lwV_out0 ?_ | refine lkC_out ?_ | refine And.intro (by omega) ?_ | fail)
                rw [← hT]
                refine call_ok (tread_v (nl := nl) (ls := ls) hb3 h15 hs hbl hb8 hab (by omega) fun s e a' hsa => ?_)
                rw [hT, hset_hset]
                rcases hrf at_ 0 rfl hL0 (by decide) (by rw [sLen_cnt ls 0 (by omega), cntL_get ls 0 (by omega)]; exact Nat.le_refl _) s e a' hsa with ⟨rfl, a2, a3, a4, a5⟩ | ⟨rfl, a2⟩
                · have hbl2 : blkV (hset h1 j (.cells 62 false (RdB nl2 bs a'))) j = some (62, RdB nl2 bs a') := blkV_iff.2 (hset_at _ _ _)
                  have hcr : codeR ls (s : Nat) = (codeS ls s, ls.getD s 0) := by
                    unfold codeR; rw [if_neg (by omega), Int.toNat_natCast, if_neg (by omega)]
                  have e6 : (ls.getD s 0 = 0) = False := eq_false (by omega)
                  have e7 : (ls.getD s 0 == 0) = false := beq_false_of_ne (by omega)
                  repeat (first | (simp (maxSteps := 1000000) only [↓reduceIte, go_sem, g0, g1, g5, g6, g7, g8, g32, g33, g34, e2, e3, e4, g11, g57, g58, e5, e6, e7]) | (simp (maxSteps := 1000000) (disch := first | omega | assumption) only [BB, g0, g1, g5, g6, g7, g8, g32, g33, g34, e2, e3, e4, g11, g57, g58, e5, e6, e7]) | with_reducible refine Gst.now ?_ | with_reducible refine vawp_draw mixed (by kernel_rfl) ?_ | with_reducible first | refine lwV_out ?_ | refine lwV_out0 ?_ | refine lkC_out ?_ | refine And.intro (by omega) ?_ | fail)
                  rw [← hT]
                  refine call_ok (tcode_v (nl := nl) (ls := ls) (s := (s : Nat)) hb3 ?_)
                  rw [hT, hcr]
                  simp only
                  have h8 : a' = at_ + ls.getD s 0 := by omega
                  subst h8
                  repeat (first | (simp (maxSteps := 1000000) only [↓reduceIte, go_sem, g0, g1, g5, g6, g7, g8, g32, g33, g34, e2, e3, e4, g11, g57, g58, e5, e6, e7]) | (simp (maxSteps := 1000000) (disch := first | omega | assumption) only [BB, g0, g1, g5, g6, g7, g8, g32, g33, g34, e2, e3, e4, g11, g57, g58, e5, e6, e7]) | with_reducible refine Gst.now ?_ | with_reducible refine vawp_draw mixed (by kernel_rfl) ?_ | with_reducible first | refine lwV_out ?_ | refine lwV_out0 ?_ | refine lkC_out ?_ | refine And.intro (by omega) ?_ | fail)
                  with_reducible refine call_ok ?_
                  refine rat_v hbl2 ?_
                  repeat (first | (simp (maxSteps := 1000000) only [↓reduceIte, go_sem, g0, g1, g5, g6, g7, g8, g32, g33, g34, e2, e3, e4, g11, g57, g58, e5, e6, e7]) | (simp (maxSteps := 1000000) (disch := first | omega | assumption) only [BB, g0, g1, g5, g6, g7, g8, g32, g33, g34, e2, e3, e4, g11, g57, g58, e5, e6, e7]) | with_reducible refine Gst.now ?_ | with_reducible refine vawp_draw mixed (by kernel_rfl) ?_ | with_reducible first | refine lwV_out ?_ | refine lwV_out0 ?_ | refine lkC_out ?_ | refine And.intro (by omega) ?_ | fail)
                  exact ⟨c - 1, by omega, i + 1, at_ + ls.getD s 0, by omega, rfl, by omega, by omega, rfl⟩
                · have e6 : (8 * bs.length - at_ < L) = True := eq_true (by omega)
                  repeat (first | (simp (maxSteps := 1000000) only [↓reduceIte, go_sem, g0, g1, g5, g6, g7, g8, g32, g33, g34, e2, e3, e4, g11, g57, g58, e5, e6]) | (simp (maxSteps := 1000000) (disch := first | omega | assumption) only [BB, g0, g1, g5, g6, g7, g8, g32, g33, g34, e2, e3, e4, g11, g57, g58, e5, e6]) | with_reducible refine Gst.now ?_ | with_reducible refine vawp_draw mixed (by kernel_rfl) ?_ | with_reducible first | refine lwV_out ?_ | refine lwV_out0 ?_ | refine lkC_out ?_ | refine And.intro (by omega) ?_ | fail)
                  refine hq _ _ ?_
                  repeat (first | (simp (maxSteps := 1000000) only [↓reduceIte, go_sem, g0, g1, g5, g6, g7, g8, g32, g33, g34, e2, e3, e4, g11, g57, g58, e5, e6]) | (simp (maxSteps := 1000000) (disch := first | omega | assumption) only [BB, g0, g1, g5, g6, g7, g8, g32, g33, g34, e2, e3, e4, g11, g57, g58, e5, e6]) | with_reducible refine Gst.now ?_ | with_reducible refine vawp_draw mixed (by kernel_rfl) ?_ | with_reducible first | refine lwV_out ?_ | refine lwV_out0 ?_ | refine lkC_out ?_ | refine And.intro (by omega) ?_ | fail)
                  exact .now (hK _)
              · have e5 := eq_false hi
                omega
end
end Go.Proofs.Ytncicgfbnjneeaa.VSums
