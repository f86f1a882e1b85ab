/- the laws of chapter 10, over the machine of values: CanonBack. -/
import Derived.Test.YtncicgfbnjneeaaProg
import Derived.Test.YtncicgfbnjneeaaAbV16
import Derived.Test.YtncicgfbnjneeaaAbFacts
import Derived.Test.YtncicgfbnjneeaaAbBitsM
import Derived.Test.YtncicgfbnjneeaaAbVBits
import Derived.Test.YtncicgfbnjneeaaAbVBitsT
import Derived.Test.YtncicgfbnjneeaaAbVLen
import Derived.Test.YtncicgfbnjneeaaAbVCheck
import Derived.Test.YtncicgfbnjneeaaAbVCodes
import Derived.Test.YtncicgfbnjneeaaAbVRCodes
import Derived.Test.YtncicgfbnjneeaaAbVNew
import Derived.Test.YtncicgfbnjneeaaAbVNewB
import Derived.Test.YtncicgfbnjneeaaAbVTab
import Derived.Test.YtncicgfbnjneeaaAbVRead
import Derived.Test.YtncicgfbnjneeaaAbVLaw
import Derived.Test.YtncicgfbnjneeaaAbVOrders
import Derived.Test.YtncicgfbnjneeaaAbVSums
import Derived.Test.YtncicgfbnjneeaaAbVBackP
import Derived.Test.YtncicgfbnjneeaaAbVBitsW
import Derived.KernelRfl
import Derived.Laws.BitsAllLaws
set_option linter.unusedVariables false
set_option linter.unusedSimpArgs false
set_option maxRecDepth 100000
set_option maxHeartbeats 4000000
namespace Go.Proofs.Ytncicgfbnjneeaa.VBack
open Go.RowKit Go.Proofs.AbM Go.Proofs.Ytncicgfbnjneeaa.Facts Go.Proofs.Ytncicgfbnjneeaa.BitsM Go.Proofs.Ytncicgfbnjneeaa.VBits Go.Proofs.Ytncicgfbnjneeaa.VBitsT Go.Proofs.Ytncicgfbnjneeaa.VLen Go.Proofs.Ytncicgfbnjneeaa.VCheck Go.Proofs.Ytncicgfbnjneeaa.VCodes Go.Proofs.Ytncicgfbnjneeaa.VRCodes Go.Proofs.Ytncicgfbnjneeaa.VNew Go.Proofs.Ytncicgfbnjneeaa.VNewB Go.Proofs.Ytncicgfbnjneeaa.VTab Go.Proofs.Ytncicgfbnjneeaa.VRead Go.Proofs.Ytncicgfbnjneeaa.VLaw Go.Proofs.Ytncicgfbnjneeaa.VOrders Go.Proofs.Ytncicgfbnjneeaa.VSums Go.Proofs.Ytncicgfbnjneeaa.VBackP Go.Proofs.Ytncicgfbnjneeaa.VBitsW
attribute [local go_sem] vawp_skip_eq vawp_seq_eq vawp_region_eq vawp_cond_g vawp_block_eq vawp_exit_eq vawp_ret_eq thenV_ret thenV_exit thenV_normal inBlockV_normal inBlockV_ret inBlockV_exit resKV_nil resKV_tmp resKV_cell oneV_one oneV_nil oneV_more initV_nil initV_cons updV_at evv_tmp evv_func evv_global evv_int evv_bool evv_str evv_snil evv_pnil evv_agg ofV3_int ofV3_bool ofV3_str ofV3_snil ofV3_pnil vok_tmp vok_func vok_global vok_int vok_bool vok_str vok_snil vok_pnil vok_agg cloV3_int cloV3_bool cloV3_str cloV3_snil cloV3_pnil voks_nil voks_cons scV_int scV_bool scV_str isBlV_b isBV_t isBV_f lwV_none lwV_sc lwV_agg lwV_tup lwV_isl lwV_own lwV_op lwV_ip lwV_fn lwV_junk vops_nil vops_n vops_s gsN_eq vop dstOk_some dstOk_none pkV_b blkV_set eRead_f eRead_t vLoad_op vLoad_ip vStore_op cells_sc cells_isl cells_own cells_op cells_ip cells_fn cells_agg parts_sc parts_isl parts_own parts_op parts_ip parts_fn parts_agg one_sc one_isl one_own one_op one_ip one_fn vField_op vField_ip ePart_f ePart_t vFieldV_agg vIx_isl vIx_own vIx_op vIx_ip vIxV_agg vIxV_str vLen_str vLen_isl vLen_own vLen_agg bndE_none bndE_int vSlice_isl vSlice_str vBin_add vBin_sub vBin_mul vBin_quo vBin_rem vBin_and vBin_or vBin_xor vBin_andNot vBin_eql vBin_neq vBin_lss vBin_leq vBin_gtr vBin_geq vBin_shr_i8 vBin_shl_i8 vBin_shr_i16 vBin_shl_i16 vBin_shr_i32 vBin_shl_i32 vBin_shr_i64 vBin_shl_i64 vBin_shr_u8 vBin_shl_u8 vBin_shr_u16 vBin_shl_u16 vBin_shr_u32 vBin_shl_u32 vBin_shr_u64 vBin_shl_u64 vBin_seq vBin_sne vBin_isln vBin_opn vBin_ipn ex_sc ex_sc2 ex_sc3 ex_tup calleeV wSc_pb wSc_pi wSc_not wSc_neg wSc_com wSc_min2 wSc_max2 vfold_nil vfold_one vfold_cons vfill_nil vfill_e eFill_s vBuild vBox vAlloc setV_map setV_zs setV_zn setV_s hset_hset eConv_ss vConv_e iv_eq ivI_eq ex_get ex_getI set_iv set_ivI okNil isNilV isSlV hdel_at hset_at List.map_toArray List.map_cons List.map_nil List.nil_append List.cons_append List.append_nil List.toList_toArray List.getElem?_toArray List.getElem_toArray List.getElem_cons_zero List.getElem_cons_succ List.getElem?_cons_zero List.getElem?_cons_succ List.set_cons_zero List.set_cons_succ List.set_set List.length_cons List.length_nil List.length_set List.length_map List.all_cons List.all_nil List.drop_zero List.drop_succ_cons List.take_succ_cons List.take_zero List.flatMap_cons Bool.and_eq_true true_and and_true if_true if_false ite_true ite_false forall_eq' forall_eq exists_eq_left exists_eq_left' exists_eq' Value.bool.injEq Value.int.injEq Value.string.injEq Value.pointer.injEq Option.some.injEq AV.sc.injEq AV.op.injEq AV.ip.injEq AV.own.injEq AV.agg.injEq VB.cells.injEq VB.iter.injEq Prod.mk.injEq decide_eq_true_eq decide_eq_false_iff_not Nat.reduceEqDiff Nat.reduceLT Nat.reduceLeDiff Nat.reduceSub Nat.reduceBEq reduceIte Int.reduceLE Int.reduceLT Int.reduceToNat Int.reduceNeg Int.reduceEq Int.reduceNe Int.cast_ofNat_Int Nat.reduceMul Nat.reduceAdd Nat.reduceDiv Nat.reduceMod Nat.reducePow Int.reduceSub Int.reduceAdd Int.reduceMul Int.reducePow Option.isSome_some Option.isSome_none Option.bind_some Option.map_some Option.map_none Option.toList_some Option.toList_none true_or or_true or_false false_or Bool.not_true Bool.not_false Bool.not_eq_true Bool.false_eq_true Bool.not_not false_implies true_implies implies_true Nat.zero_add Nat.add_zero Nat.mul_one Bool.not_eq_true' Bool.true_eq_false Bool.and_true Bool.true_and Bool.and_false Bool.false_and Bool.or_true Bool.true_or Bool.or_false Bool.false_or Option.isNone_some Option.isNone_none Int.reduceBEq Int.reduceBNe beq_self_eq_true bne_self_eq_false beq_iff_eq not_false_eq_true not_true_eq_false Decidable.not_not bne_iff_ne ne_eq Int.toNat_natCast gt_lt ge_le c_add c_mul c_sub c_addn c_nadd c_muln c_nmul c_subn c_nsub c_divn c_modn c_div c_mod c_tdivn c_tmodn c_tdiv c_tmod c_pow c_nn c_beq c_beqn c_bne c_bnen wr64 wr32 wru64 wru32 wru16 wru8 c_if c_if1 c_if2 c_lt c_le c_eq c_ltn c_len c_nlt c_nle c_eqn m_drop m_take Nat.add_sub_cancel_left Nat.add_sub_cancel Int.reduceTMod Int.reduceTDiv Int.reduceMod Int.reduceDiv isC_some hset_ne hdel_ne hdel_hset hdel_hset_ne blkV_nset blkV_ndel hset_hdel gV_t gV_f isGdV_b isGdV_u isBV_u isGdV_g isBV_gt isBV_gf decide_true decide_false Bool.or_eq_false_iff eq_self Nat.lt_irrefl Int.lt_irrefl Nat.le_refl Int.le_refl
attribute [local go_sem high] vops_pk vops_mv vops_as vops_smv pk_and pk_or pk_gand pk_gor pk_orn pk_gorn
attribute [local go_sem] ag3 sz3 zc3 ik3 ag4 sz4 zc4 ag5 sz5 zc5 ik5 ag22 sz22 el22 zc22 is22 ag24 sz24 el24 zc24 is24 ag25 sz25 zc25 ik25 ag30 sz30 zc30 ik30 ag31 sz31 zc31 pt31 ag38 sz38 el38 zc38 is38 ag39 sz39 zc39 pt39 ag49 sz49 zc49 bo49 ag54 sz54 ea54 an54 zc54 bo54 ag58 sz58 ea58 an58 zc58 bo58 ag60 sz60 zc60 bo60 ag62 sz62 zc62 bo62 ag68 sz68 zc68 pt68 ag72 sz72 zc72 ag73 sz73 ea73 an73 zc73 bo73 of49_0 fd49_0 of49_1 fd49_1 of60_0 fd60_0 of60_1 fd60_1 of60_2 fd60_2 of60_3 fd60_3 of60_4 fd60_4 of62_0 fd62_0 of62_1 fd62_1 eqb neb
section
variable {n : Nat} {h : VH} {K : AV → VH → Prop}
attribute [local go_sem] Nat.zero_le
def wrote (ls : List Nat) (row : List Int) : List Nat := (row.filter fun s => decide (0 < (codeR ls s).2)).map Int.toNat
def wroteX (ls : List Nat) (ms : List Nat) : List Nat := ms.flatMap fun s => codeTo (codeS ls s) (ls.getD s 0) (ls.getD s 0)
theorem codeR_pos {ls : List Nat} {s : Int} (h : 0 < (codeR ls s).2) : s = (s.toNat : Nat) ∧ s.toNat < ls.length ∧ 0 < ls.getD s.toNat 0 ∧ codeR ls s = (codeS ls s.toNat, ls.getD s.toNat 0) := by
  by_cases h1 : s < 0 ∨ (ls.length : Int) ≤ s
  · unfold codeR at h; rw [if_pos h1] at h; simp at h
  · by_cases h2 : ls.getD s.toNat 0 = 0
    · unfold codeR at h; rw [if_neg h1, if_pos h2] at h; simp at h
    · refine ⟨by omega, by omega, by omega, ?_⟩
      unfold codeR; rw [if_neg h1, if_neg h2]
theorem wrote_mem {ls : List Nat} {row : List Int} : ∀ s ∈ wrote ls row, s < ls.length ∧ 0 < ls.getD s 0 := fun s hs => by
  obtain ⟨x, hx, rfl⟩ := List.mem_map.1 hs
  have := codeR_pos (of_decide_eq_true (List.mem_filter.1 hx).2)
  exact ⟨this.2.1, this.2.2.1⟩
theorem wrote_len (ls : List Nat) (row : List Int) : (wrote ls row).length ≤ row.length := by
  unfold wrote; rw [List.length_map]; exact List.length_filter_le _ _
theorem wrote_take {ls : List Nat} {row : List Int} {i : Nat} (hi : i < row.length) : wrote ls (row.take (i + 1)) = wrote ls (row.take i) ++ (if 0 < (codeR ls (row.getD i 0)).2 then [(row.getD i 0).toNat] else []) := by
  rw [List.take_succ_eq_append_getElem hi, List.getD_eq_getElem?_getD, List.getElem?_eq_getElem hi, Option.getD_some]
  unfold wrote
  rw [List.filter_append, List.map_append]
  split
  · rename_i h0
    rw [List.filter_cons_of_pos (by exact decide_eq_true h0)]; rfl
  · rename_i h0
    rw [List.filter_cons_of_neg (by simpa using h0)]; rfl
theorem wroteX_app (ls a b : List Nat) : wroteX ls (a ++ b) = wroteX ls a ++ wroteX ls b := by unfold wroteX; rw [List.flatMap_append]
theorem wroteX_one (ls : List Nat) (s : Nat) : wroteX ls [s] = codeTo (codeS ls s) (ls.getD s 0) (ls.getD s 0) := by simp [wroteX]
theorem wroteX_bits (ls ms : List Nat) : IsBits (wroteX ls ms) := fun x hx => by
  obtain ⟨s, _, hs⟩ := List.mem_flatMap.1 hx
  exact codeTo_bits _ _ _ x hs
theorem wroteX_len {ls : List Nat} (h15 : ∀ x ∈ ls, x ≤ 15) : ∀ ms : List Nat, (wroteX ls ms).length ≤ 15 * ms.length
  | [] => by simp [wroteX]
  | s :: ms => by
    have := wroteX_len h15 ms
    have h2 := getD_leN (i := s) h15
    have h3 := wroteX_app ls [s] ms
    rw [List.singleton_append, wroteX_one] at h3
    rw [h3, List.length_append, codeTo_len, List.length_cons]
    omega
theorem wroteX_split {ls ms : List Nat} {i : Nat} (hi : i < ms.length) : wroteX ls ms = wroteX ls (ms.take i) ++ codeTo (codeS ls (ms.getD i 0)) (ls.getD (ms.getD i 0) 0) (ls.getD (ms.getD i 0) 0) ++ wroteX ls (ms.drop (i + 1)) := by
  rw [← wroteX_one, ← wroteX_app, ← wroteX_app, List.getD_eq_getElem?_getD, List.getElem?_eq_getElem hi, Option.getD_some, ← List.take_succ_eq_append_getElem hi, List.take_append_drop]
theorem hs32_15 {k : Nat} (h : k ≤ 15) : hs32 ((k : Nat) : Int) = k := by unfold hs32; omega
/-- the symbol that stands next is read -/
theorem readL_next {ls ms : List Nat} (h15 : ∀ x ∈ ls, x ≤ 15) (hs : sumL ls ≤ 32768) (hm : ∀ s ∈ ms, s < ls.length ∧ 0 < ls.getD s 0) {i : Nat} (hi : i < ms.length) : readL ls (bitsOf (packB (wroteX ls ms))) 16 (wroteX ls (ms.take i)).length 0 0 = (ms.getD i 0, 0, (wroteX ls (ms.take (i + 1))).length) := by
  have hmi : ms.getD i 0 ∈ ms := by rw [List.getD_eq_getElem?_getD, List.getElem?_eq_getElem hi]; exact List.getElem_mem hi
  have hsp := wroteX_split (ls := ls) hi
  have htk : wroteX ls (ms.take (i + 1)) = wroteX ls (ms.take i) ++ codeTo (codeS ls (ms.getD i 0)) (ls.getD (ms.getD i 0) 0) (ls.getD (ms.getD i 0) 0) := by
    rw [← wroteX_one, ← wroteX_app, List.getD_eq_getElem?_getD, List.getElem?_eq_getElem hi, Option.getD_some, ← List.take_succ_eq_append_getElem hi]
  obtain ⟨h1, h2⟩ := hm _ hmi
  generalize ms.getD i 0 = s at *
  have hN := getD_leN (i := s) h15
  have hp := code_pow h15 hs h1 h2
  rw [bitsOf_packB (wroteX_bits ls ms), htk, List.length_append, codeTo_len]
  have hl : (wroteX ls ms).length = (wroteX ls (ms.take i)).length + ls.getD s 0 + (wroteX ls (ms.drop (i + 1))).length := by
    rw [hsp, List.length_append, List.length_append, codeTo_len]
  have := readL_code (X := padB (wroteX ls ms)) h15 h1 h2 (a0 := (wroteX ls (ms.take i)).length) (by rw [padB_len]; omega) (fun t ht => by
    rw [hsp, pad_get (by rw [codeTo_len]; exact ht), codeTo_get (by omega)]) 16 0 rfl h2
  rw [Nat.add_zero, Nat.sub_zero, Nat.div_eq_of_lt hp] at this
  exact this
theorem codeR_at {ls : List Nat} {s : Nat} (h : s < ls.length) : codeR ls (s : Nat) = if ls.getD s 0 = 0 then (0, 0) else (codeS ls s, ls.getD s 0) := by
  unfold codeR; rw [if_neg (by omega), Int.toNat_natCast]
theorem codeR_pre {ls : List Nat} (h15 : ∀ x ∈ ls, x ≤ 15) {i k : Nat} (hi : i < ls.length) (hk : k < ls.length) (hne : i ≠ k) (h0 : 0 < (codeR ls (i : Nat)).2) (hle : (codeR ls (i : Nat)).2 ≤ (codeR ls (k : Nat)).2) : (codeR ls (k : Nat)).1 / 2 ^ ((codeR ls (k : Nat)).2 - (codeR ls (i : Nat)).2) ≠ (codeR ls (i : Nat)).1 := by
  rw [codeR_at hi] at *
  rw [codeR_at hk] at *
  by_cases h1 : ls.getD i 0 = 0
  · rw [if_pos h1] at h0; simp at h0
  · by_cases h2 : ls.getD k 0 = 0
    · rw [if_neg h1, if_pos h2] at hle; simp only at hle; omega
    · rw [if_neg h1, if_neg h2] at *
      exact code_pre h15 hi hk (by omega) hne hle
theorem codeR_le {ls : List Nat} (h15 : ∀ x ∈ ls, x ≤ 15) (hs : sumL ls ≤ 32768) {i : Nat} (hi : i < ls.length) : (codeR ls (i : Nat)).2 ≤ 15 ∧ (codeR ls (i : Nat)).1 < 32768 := by
  rw [codeR_at hi]
  split
  · simp
  · have h1 := getD_leN (i := i) h15
    have h2 := code_pow h15 hs hi (by omega)
    have h3 : 2 ^ ls.getD i 0 ≤ 32768 := (Nat.pow_le_pow_right (by omega) h1 : 2 ^ ls.getD i 0 ≤ 2 ^ 15)
    exact ⟨h1, by omega⟩
theorem back_law {nl nl2 : Bool} {l l2 : Nat} {xs row : List Int} (hl : l = xs.length) (hl2 : l2 = row.length) (hnl : nl = true → xs = []) (hb : xs.length ≤ 140737488355328) (hb2 : row.length ≤ 140737488355328) (hK : ∀ h', K (.sc (.bool (true))) h') : VC Try.prog GL (n + 8) 7 [.isl nl l (xs.map (ivI .i64)), .isl nl2 l2 (row.map (ivI .i64))] h K := by
  refine VC_go Try.func7 rfl (by decide) Try.ntmps7 Try.results7 rfl fun Q hq hn => ?_
  subst hl hl2
  repeat (first | (simp (maxSteps := 1000000) only [↓reduceIte, go_sem]) | (simp (maxSteps := 1000000) (disch := first | omega | assumption) only [BB]) | with_reducible refine Gst.now ?_ | with_reducible refine vawp_draw mixed (by kernel_rfl) ?_ | with_reducible first | refine lwV_out ?_ | refine lwV_out0 ?_ | refine lkC_out ?_ | refine And.intro (by omega) ?_ | fail)
  with_reducible refine call_ok ?_
  refine alive_v ?_
  repeat (first | (simp (maxSteps := 1000000) only [↓reduceIte, go_sem]) | (simp (maxSteps := 1000000) (disch := first | omega | assumption) only [BB]) | with_reducible refine vawp_draw mixed (by kernel_rfl) ?_ | with_reducible first | refine lwV_out ?_ | refine lwV_out0 ?_ | refine lkC_out ?_ | refine And.intro (by omega) ?_ | fail)
  first | (with_reducible refine Gst.now ?_) | (with_reducible refine lkC_out ?_; simp only [vawp_skip_eq, thenV_normal]; with_reducible refine Gst.now ?_) | (with_reducible refine lkC_out ?_)
  repeat (first | (simp (maxSteps := 1000000) only [↓reduceIte, go_sem]) | (simp (maxSteps := 1000000) (disch := first | omega | assumption) only [BB]) | with_reducible refine vawp_draw mixed (by kernel_rfl) ?_ | with_reducible first | refine lwV_out ?_ | refine lwV_out0 ?_ | refine lkC_out ?_ | refine And.intro (by omega) ?_ | fail)
  first | (with_reducible refine Gst.now ?_) | (with_reducible refine lkC_out ?_; simp only [vawp_skip_eq, thenV_normal]; with_reducible refine Gst.now ?_) | (with_reducible refine lkC_out ?_)
  try simp only [vawp_seq_eq, vawp_block_eq]
  with_reducible refine vawp_regq ?_
  simp only [List.toList_toArray]
  repeat (first | (apply vopsQ_pk; (case hd => rfl); (case h1 => simp (disch := first | omega | assumption) only [↓reduceIte, go_sem]); (case h2 => simp (disch := first | omega | assumption) only [↓reduceIte, go_sem]); (case h3 => simp (disch := first | omega | assumption) only [↓reduceIte, go_sem]); (case hb => simp (disch := first | omega | assumption) only [↓reduceIte, go_sem]); (try simp (disch := first | omega | assumption) only [↓reduceIte, go_sem])) | (apply vopsQ_n; (case hd => rfl); (case hq => (intro K' hk'; repeat (first | simp (maxSteps := 4000000) (disch := first | omega | assumption) only [↓reduceIte, go_sem] | with_reducible refine Gst.now ?_ | with_reducible refine vawp_draw mixed (by kernel_rfl) ?_ | with_reducible first | refine lwV_out ?_ | refine lwV_out0 ?_ | refine lkC_out ?_ | refine And.intro (by omega) ?_ | fail); exact hk'))) | (apply vopsQ_gt; (case hd => rfl); (case h1 => rfl); (case h2 => rfl); (case h3 => simp (disch := first | omega | assumption) only [↓reduceIte, go_sem]); (case hq => (intro K' hk'; repeat (first | simp (maxSteps := 4000000) (disch := first | omega | assumption) only [↓reduceIte, go_sem] | with_reducible refine Gst.now ?_ | with_reducible refine vawp_draw mixed (by kernel_rfl) ?_ | with_reducible first | refine lwV_out ?_ | refine lwV_out0 ?_ | refine lkC_out ?_ | refine And.intro (by omega) ?_ | fail); exact hk'))) | (apply vopsQ_gf'; (case hd => rfl); (case h1 => rfl); (case h2 => rfl); (case h3 => simp (disch := first | omega | assumption) only [↓reduceIte, go_sem])) | (apply vopsQ_gj; (case hd => rfl); (case h1 => rfl); (case h2 => rfl); (case h3 => simp (disch := first | omega | assumption) only [↓reduceIte, go_sem])) | (apply vopsQ_gpk; (case hd => rfl); (case h1 => rfl); (case h2 => rfl); (case h3 => simp (disch := first | omega | assumption) only [↓reduceIte, go_sem]); (case k1 => simp (disch := first | omega | assumption) only [↓reduceIte, go_sem]); (case k2 => simp (disch := first | omega | assumption) only [↓reduceIte, go_sem]); (case k3 => simp (disch := first | omega | assumption) only [↓reduceIte, go_sem]); (case hb => (intro hc; (try simp (disch := first | omega | assumption) only [↓reduceIte, go_sem] at hc); simp (disch := first | omega | assumption) only [↓reduceIte, go_sem, hc])); (try simp (disch := first | omega | assumption) only [↓reduceIte, go_sem])) | (apply vopsQ_gu; (case hd => rfl); (case h1 => rfl); (case h2 => rfl); (case h3 => simp (disch := first | omega | assumption) only [↓reduceIte, go_sem]); (case hq => (intro hc K' hk'; (try simp (disch := first | omega | assumption) only [↓reduceIte, go_sem] at hc); repeat (first | simp (maxSteps := 4000000) (disch := first | omega | assumption) only [↓reduceIte, go_sem, hc] | with_reducible refine Gst.now ?_ | with_reducible refine vawp_draw mixed (by kernel_rfl) ?_ | with_reducible first | refine lwV_out ?_ | refine lwV_out0 ?_ | refine lkC_out ?_ | refine And.intro (by omega) ?_ | fail); exact hk')); (try simp (disch := first | omega | assumption) only [↓reduceIte, go_sem])) | fail)
  simp only [vopsQ_nil]
  repeat (first | (simp (maxSteps := 1000000) only [↓reduceIte, go_sem]) | (simp (maxSteps := 1000000) (disch := first | omega | assumption) only [BB]) | with_reducible refine Gst.now ?_ | with_reducible refine vawp_draw mixed (by kernel_rfl) ?_ | with_reducible first | refine lwV_out ?_ | refine lwV_out0 ?_ | refine lkC_out ?_ | refine And.intro (by omega) ?_ | fail)
  split
  · repeat (first | (simp (maxSteps := 1000000) only [↓reduceIte, go_sem]) | (simp (maxSteps := 1000000) (disch := first | omega | assumption) only [BB]) | with_reducible refine Gst.now ?_ | with_reducible refine vawp_draw mixed (by kernel_rfl) ?_ | with_reducible first | refine lwV_out ?_ | refine lwV_out0 ?_ | refine lkC_out ?_ | refine And.intro (by omega) ?_ | fail)
    refine hq _ _ ?_
    repeat (first | (simp (maxSteps := 1000000) only [↓reduceIte, go_sem]) | (simp (maxSteps := 1000000) (disch := first | omega | assumption) only [BB]) | with_reducible refine Gst.now ?_ | with_reducible refine vawp_draw mixed (by kernel_rfl) ?_ | with_reducible first | refine lwV_out ?_ | refine lwV_out0 ?_ | refine lkC_out ?_ | refine And.intro (by omega) ?_ | fail)
    exact .now (hK _)
  · rename_i hlim
    simp only [Bool.or_eq_true, decide_eq_true_eq, not_or, Int.not_lt, Nat.not_lt] at hlim
    repeat (first | (simp (maxSteps := 1000000) only [↓reduceIte, go_sem]) | (simp (maxSteps := 1000000) (disch := first | omega | assumption) only [BB]) | with_reducible refine Gst.now ?_ | with_reducible refine vawp_draw mixed (by kernel_rfl) ?_ | with_reducible first | refine lwV_out ?_ | refine lwV_out0 ?_ | refine lkC_out ?_ | refine And.intro (by omega) ?_ | fail)
    refine call_ok (new_v rfl hnl hb (fun hc0 => ?_) (fun hc0 => ?_))
    · have e1 : (chkL xs = 0) = False := eq_false hc0
      repeat (first | (simp (maxSteps := 1000000) only [↓reduceIte, go_sem, e1]) | (simp (maxSteps := 1000000) (disch := first | omega | assumption) only [BB, e1]) | with_reducible refine Gst.now ?_ | with_reducible refine vawp_draw mixed (by kernel_rfl) ?_ | with_reducible first | refine lwV_out ?_ | refine lwV_out0 ?_ | refine lkC_out ?_ | refine And.intro (by omega) ?_ | fail)
      refine hq _ _ ?_
      repeat (first | (simp (maxSteps := 1000000) only [↓reduceIte, go_sem, e1]) | (simp (maxSteps := 1000000) (disch := first | omega | assumption) only [BB, e1]) | with_reducible refine Gst.now ?_ | with_reducible refine vawp_draw mixed (by kernel_rfl) ?_ | with_reducible first | refine lwV_out ?_ | refine lwV_out0 ?_ | refine lkC_out ?_ | refine And.intro (by omega) ?_ | fail)
      exact .now (hK _)
    · obtain ⟨ls, hls, h15, hb3, hs, hE4⟩ := chk_ok hc0
      have hlen : xs.length = ls.length := by rw [hls, List.length_map]
      have hE3 : xs.map (ivI .i64) = ls.map (iv .i64) := by rw [hls]; exact natL_cells ls
      rw [hE4, hE3, hlen]
      have hpre := fun s t (h1 : s < ls.length) (h2 : t < ls.length) => code_pre (s := s) (t := t) h15 h1 h2
      have hpw := fun s (hsl : s < ls.length) h0 => code_pow (s := s) h15 hs hsl h0
      have hlx : ∀ t, ls.getD t 0 ≤ 15 := fun t => getD_leN h15
      generalize hT : tabC nl ls = T
      repeat (first | (simp (maxSteps := 1000000) only [↓reduceIte, go_sem]) | (simp (maxSteps := 1000000) (disch := first | omega | assumption) only [BB]) | with_reducible refine Gst.now ?_ | with_reducible refine vawp_draw mixed (by kernel_rfl) ?_ | with_reducible first | refine lwV_out ?_ | refine lwV_out0 ?_ | refine lkC_out ?_ | refine And.intro (by omega) ?_ | fail)
      refine vawp_loop (k := ls.length) (fun c ρ h1 => ∃ i : Nat, c + i = ls.length ∧ ρ 0 = .isl nl ls.length (ls.map (iv .i64)) ∧ ρ 1 = .isl nl2 row.length (row.map (ivI .i64)) ∧ ρ 5 = .ip T 0 ∧ ρ 42 = (.sc (.int .i64 ((ls.length : Nat)))) ∧ ρ 43 = (.sc (.int .i64 ((i : Nat)))) ∧ h1 = h) ?_ ?_
      · refine ⟨0, by omega, ?_⟩
        repeat (first | (simp (maxSteps := 1000000) only [↓reduceIte, go_sem]) | (simp (maxSteps := 1000000) (disch := first | omega | assumption) only [BB]) | with_reducible refine Gst.now ?_ | with_reducible refine vawp_draw mixed (by kernel_rfl) ?_ | with_reducible first | refine lwV_out ?_ | refine lwV_out0 ?_ | refine lkC_out ?_ | refine And.intro (by omega) ?_ | fail)
      · rintro c ρ h1 ⟨i, hc, g0, g1, g5, g42, g43, rfl⟩
        by_cases hi : i < ls.length
        · have e1 := eq_true hi
          repeat (first | (simp (maxSteps := 1000000) only [↓reduceIte, go_sem, g0, g1, g5, g42, g43, e1]) | (simp (maxSteps := 1000000) (disch := first | omega | assumption) only [BB, g0, g1, g5, g42, g43, e1]) | with_reducible refine Gst.now ?_ | with_reducible refine vawp_draw mixed (by kernel_rfl) ?_ | with_reducible first | refine lwV_out ?_ | refine lwV_out0 ?_ | refine lkC_out ?_ | refine And.intro (by omega) ?_ | fail)
          refine vawp_loop (k := ls.length) (fun c2 ρ h2 => ∃ k : Nat, c2 + k = ls.length ∧ ρ 0 = .isl nl ls.length (ls.map (iv .i64)) ∧ ρ 1 = .isl nl2 row.length (row.map (ivI .i64)) ∧ ρ 5 = .ip T 0 ∧ ρ 7 = (.sc (.int .i64 ((i : Nat)))) ∧ ρ 42 = (.sc (.int .i64 ((ls.length : Nat)))) ∧ ρ 43 = (.sc (.int .i64 ((i : Nat)))) ∧ ρ 47 = (.sc (.int .i64 ((ls.length : Nat)))) ∧ ρ 48 = (.sc (.int .i64 ((k : Nat)))) ∧ h2 = h1) ?_ ?_
          · refine ⟨0, by omega, ?_⟩
            repeat (first | (simp (maxSteps := 1000000) only [↓reduceIte, go_sem, g0, g1, g5, g42, g43, e1]) | (simp (maxSteps := 1000000) (disch := first | omega | assumption) only [BB, g0, g1, g5, g42, g43, e1]) | with_reducible refine Gst.now ?_ | with_reducible refine vawp_draw mixed (by kernel_rfl) ?_ | with_reducible first | refine lwV_out ?_ | refine lwV_out0 ?_ | refine lkC_out ?_ | refine And.intro (by omega) ?_ | fail)
          · rintro c2 ρ h2 ⟨k, hck, g0, g1, g5, g7, g42, g43, g47, g48, rfl⟩
            by_cases hk : k < ls.length
            · have e2 := eq_true hk
              repeat (first | (simp (maxSteps := 1000000) only [↓reduceIte, go_sem, g0, g1, g5, g42, g43, e1, g7, g47, g48, e2]) | (simp (maxSteps := 1000000) (disch := first | omega | assumption) only [BB, g0, g1, g5, g42, g43, e1, g7, g47, g48, e2]) | with_reducible refine Gst.now ?_ | with_reducible refine vawp_draw mixed (by kernel_rfl) ?_ | with_reducible first | refine lwV_out ?_ | refine lwV_out0 ?_ | refine lkC_out ?_ | refine And.intro (by omega) ?_ | fail)
              rw [← hT]
              with_reducible refine call_ok ?_
              refine tcode_v hb3 ?_
              repeat (first | (simp (maxSteps := 1000000) only [↓reduceIte, go_sem, g0, g1, g5, g42, g43, e1, g7, g47, g48, e2]) | (simp (maxSteps := 1000000) (disch := first | omega | assumption) only [BB, g0, g1, g5, g42, g43, e1, g7, g47, g48, e2]) | with_reducible refine Gst.now ?_ | with_reducible refine vawp_draw mixed (by kernel_rfl) ?_ | with_reducible first | refine lwV_out ?_ | refine lwV_out0 ?_ | refine lkC_out ?_ | refine And.intro (by omega) ?_ | fail)
              rw [← hT]
              with_reducible refine call_ok ?_
              refine tcode_v hb3 ?_
              have hpr := fun hne => codeR_pre h15 hi hk hne
              have hri := codeR_le h15 hs hi
              have hrk := codeR_le h15 hs hk
              generalize codeR ls (i : Nat) = ri at *
              generalize codeR ls (k : Nat) = rk at *
              obtain ⟨ca, m⟩ := ri
              obtain ⟨cb, m2⟩ := rk
              simp only at hpr hri hrk
              simp only
              repeat (first | (simp (maxSteps := 1000000) only [↓reduceIte, go_sem, g0, g1, g5, g42, g43, e1, g7, g47, g48, e2]) | (simp (maxSteps := 1000000) (disch := first | omega | assumption) only [BB, g0, g1, g5, g42, g43, e1, g7, g47, g48, e2]) | with_reducible refine vawp_draw mixed (by kernel_rfl) ?_ | with_reducible first | refine lwV_out ?_ | refine lwV_out0 ?_ | refine lkC_out ?_ | refine And.intro (by omega) ?_ | fail)
              first | (with_reducible refine Gst.now ?_) | (with_reducible refine lkC_out ?_; simp only [vawp_skip_eq, thenV_normal]; with_reducible refine Gst.now ?_) | (with_reducible refine lkC_out ?_)
              by_cases hik : i = k
              · have e3 : (i != k) = false := by simpa using hik
                have e4 := eq_true hik
                try simp only [vawp_seq_eq, vawp_block_eq]
                with_reducible refine vawp_regq ?_
                simp only [List.toList_toArray]
                repeat (first | (apply vopsQ_pk; (case hd => rfl); (case h1 => simp (disch := first | omega | assumption) only [↓reduceIte, go_sem, g0, g1, g5, g42, g43, e1, g7, g47, g48, e2, e3, e4]); (case h2 => simp (disch := first | omega | assumption) only [↓reduceIte, go_sem, g0, g1, g5, g42, g43, e1, g7, g47, g48, e2, e3, e4]); (case h3 => simp (disch := first | omega | assumption) only [↓reduceIte, go_sem, g0, g1, g5, g42, g43, e1, g7, g47, g48, e2, e3, e4]); (case hb => simp (disch := first | omega | assumption) only [↓reduceIte, go_sem, g0, g1, g5, g42, g43, e1, g7, g47, g48, e2, e3, e4]); (try simp (disch := first | omega | assumption) only [↓reduceIte, go_sem, g0, g1, g5, g42, g43, e1, g7, g47, g48, e2, e3, e4])) | (apply vopsQ_n; (case hd => rfl); (case hq => (intro K' hk'; repeat (first | simp (maxSteps := 4000000) (disch := first | omega | assumption) only [↓reduceIte, go_sem, g0, g1, g5, g42, g43, e1, g7, g47, g48, e2, e3, e4] | with_reducible refine Gst.now ?_ | with_reducible refine vawp_draw mixed (by kernel_rfl) ?_ | with_reducible first | refine lwV_out ?_ | refine lwV_out0 ?_ | refine lkC_out ?_ | refine And.intro (by omega) ?_ | fail); exact hk'))) | (apply vopsQ_gt; (case hd => rfl); (case h1 => rfl); (case h2 => rfl); (case h3 => simp (disch := first | omega | assumption) only [↓reduceIte, go_sem]); (case hq => (intro K' hk'; repeat (first | simp (maxSteps := 4000000) (disch := first | omega | assumption) only [↓reduceIte, go_sem, g0, g1, g5, g42, g43, e1, g7, g47, g48, e2, e3, e4] | with_reducible refine Gst.now ?_ | with_reducible refine vawp_draw mixed (by kernel_rfl) ?_ | with_reducible first | refine lwV_out ?_ | refine lwV_out0 ?_ | refine lkC_out ?_ | refine And.intro (by omega) ?_ | fail); exact hk'))) | (apply vopsQ_gf'; (case hd => rfl); (case h1 => rfl); (case h2 => rfl); (case h3 => simp (disch := first | omega | assumption) only [↓reduceIte, go_sem, g0, g1, g5, g42, g43, e1, g7, g47, g48, e2, e3, e4])) | (apply vopsQ_gj; (case hd => rfl); (case h1 => rfl); (case h2 => rfl); (case h3 => simp (disch := first | omega | assumption) only [↓reduceIte, go_sem, g0, g1, g5, g42, g43, e1, g7, g47, g48, e2, e3, e4])) | (apply vopsQ_gpk; (case hd => rfl); (case h1 => rfl); (case h2 => rfl); (case h3 => simp (disch := first | omega | assumption) only [↓reduceIte, go_sem, g0, g1, g5, g42, g43, e1, g7, g47, g48, e2, e3, e4]); (case k1 => simp (disch := first | omega | assumption) only [↓reduceIte, go_sem, g0, g1, g5, g42, g43, e1, g7, g47, g48, e2, e3, e4]); (case k2 => simp (disch := first | omega | assumption) only [↓reduceIte, go_sem, g0, g1, g5, g42, g43, e1, g7, g47, g48, e2, e3, e4]); (case k3 => simp (disch := first | omega | assumption) only [↓reduceIte, go_sem, g0, g1, g5, g42, g43, e1, g7, g47, g48, e2, e3, e4]); (case hb => (intro hc; (try simp (disch := first | omega | assumption) only [↓reduceIte, go_sem, g0, g1, g5, g42, g43, e1, g7, g47, g48, e2, e3, e4] at hc); simp (disch := first | omega | assumption) only [↓reduceIte, go_sem, hc, g0, g1, g5, g42, g43, e1, g7, g47, g48, e2, e3, e4])); (try simp (disch := first | omega | assumption) only [↓reduceIte, go_sem, g0, g1, g5, g42, g43, e1, g7, g47, g48, e2, e3, e4])) | (apply vopsQ_gu; (case hd => rfl); (case h1 => rfl); (case h2 => rfl); (case h3 => simp (disch := first | omega | assumption) only [↓reduceIte, go_sem, g0, g1, g5, g42, g43, e1, g7, g47, g48, e2, e3, e4]); (case hq => (intro hc K' hk'; (try simp (disch := first | omega | assumption) only [↓reduceIte, go_sem, g0, g1, g5, g42, g43, e1, g7, g47, g48, e2, e3, e4] at hc); repeat (first | simp (maxSteps := 4000000) (disch := first | omega | assumption) only [↓reduceIte, go_sem, hc, g0, g1, g5, g42, g43, e1, g7, g47, g48, e2, e3, e4] | with_reducible refine Gst.now ?_ | with_reducible refine vawp_draw mixed (by kernel_rfl) ?_ | with_reducible first | refine lwV_out ?_ | refine lwV_out0 ?_ | refine lkC_out ?_ | refine And.intro (by omega) ?_ | fail); exact hk')); (try simp (disch := first | omega | assumption) only [↓reduceIte, go_sem, g0, g1, g5, g42, g43, e1, g7, g47, g48, e2, e3, e4])) | fail)
                simp only [vopsQ_nil]
                repeat (first | (simp (maxSteps := 1000000) only [↓reduceIte, go_sem, g0, g1, g5, g42, g43, e1, g7, g47, g48, e2, e3, e4]) | (simp (maxSteps := 1000000) (disch := first | omega | assumption) only [BB, g0, g1, g5, g42, g43, e1, g7, g47, g48, e2, e3, e4]) | with_reducible refine Gst.now ?_ | with_reducible refine vawp_draw mixed (by kernel_rfl) ?_ | with_reducible first | refine lwV_out ?_ | refine lwV_out0 ?_ | refine lkC_out ?_ | refine And.intro (by omega) ?_ | fail)
                exact ⟨c2 - 1, by omega, k + 1, by omega, hT.symm, rfl⟩
              have e3 : (i != k) = true := by simpa using hik
              have e4 := eq_false hik
              by_cases hm0 : 0 < m
              case neg =>
                have e5 := decide_eq_false hm0
                have e6 := eq_false hm0
                try simp only [vawp_seq_eq, vawp_block_eq]
                with_reducible refine vawp_regq ?_
                simp only [List.toList_toArray]
                repeat (first | (apply vopsQ_pk; (case hd => rfl); (case h1 => simp (disch := first | omega | assumption) only [↓reduceIte, go_sem, g0, g1, g5, g42, g43, e1, g7, g47, g48, e2, e3, e4, e5, e6]); (case h2 => simp (disch := first | omega | assumption) only [↓reduceIte, go_sem, g0, g1, g5, g42, g43, e1, g7, g47, g48, e2, e3, e4, e5, e6]); (case h3 => simp (disch := first | omega | assumption) only [↓reduceIte, go_sem, g0, g1, g5, g42, g43, e1, g7, g47, g48, e2, e3, e4, e5, e6]); (case hb => simp (disch := first | omega | assumption) only [↓reduceIte, go_sem, g0, g1, g5, g42, g43, e1, g7, g47, g48, e2, e3, e4, e5, e6]); (try simp (disch := first | omega | assumption) only [↓reduceIte, go_sem, g0, g1, g5, g42, g43, e1, g7, g47, g48, e2, e3, e4, e5, e6])) | (apply vopsQ_n; (case hd => rfl); (case hq => (intro K' hk'; repeat (first | simp (maxSteps := 4000000) (disch := first | omega | assumption) only [↓reduceIte, go_sem, g0, g1, g5, g42, g43, e1, g7, g47, g48, e2, e3, e4, e5, e6] | with_reducible refine Gst.now ?_ | with_reducible refine vawp_draw mixed (by kernel_rfl) ?_ | with_reducible first | refine lwV_out ?_ | refine lwV_out0 ?_ | refine lkC_out ?_ | refine And.intro (by omega) ?_ | fail); exact hk'))) | (apply vopsQ_gt; (case hd => rfl); (case h1 => rfl); (case h2 => rfl); (case h3 => simp (disch := first | omega | assumption) only [↓reduceIte, go_sem]); (case hq => (intro K' hk'; repeat (first | simp (maxSteps := 4000000) (disch := first | omega | assumption) only [↓reduceIte, go_sem, g0, g1, g5, g42, g43, e1, g7, g47, g48, e2, e3, e4, e5, e6] | with_reducible refine Gst.now ?_ | with_reducible refine vawp_draw mixed (by kernel_rfl) ?_ | with_reducible first | refine lwV_out ?_ | refine lwV_out0 ?_ | refine lkC_out ?_ | refine And.intro (by omega) ?_ | fail); exact hk'))) | (apply vopsQ_gf'; (case hd => rfl); (case h1 => rfl); (case h2 => rfl); (case h3 => simp (disch := first | omega | assumption) only [↓reduceIte, go_sem, g0, g1, g5, g42, g43, e1, g7, g47, g48, e2, e3, e4, e5, e6])) | (apply vopsQ_gj; (case hd => rfl); (case h1 => rfl); (case h2 => rfl); (case h3 => simp (disch := first | omega | assumption) only [↓reduceIte, go_sem, g0, g1, g5, g42, g43, e1, g7, g47, g48, e2, e3, e4, e5, e6])) | (apply vopsQ_gpk; (case hd => rfl); (case h1 => rfl); (case h2 => rfl); (case h3 => simp (disch := first | omega | assumption) only [↓reduceIte, go_sem, g0, g1, g5, g42, g43, e1, g7, g47, g48, e2, e3, e4, e5, e6]); (case k1 => simp (disch := first | omega | assumption) only [↓reduceIte, go_sem, g0, g1, g5, g42, g43, e1, g7, g47, g48, e2, e3, e4, e5, e6]); (case k2 => simp (disch := first | omega | assumption) only [↓reduceIte, go_sem, g0, g1, g5, g42, g43, e1, g7, g47, g48, e2, e3, e4, e5, e6]); (case k3 => simp (disch := first | omega | assumption) only [↓reduceIte, go_sem, g0, g1, g5, g42, g43, e1, g7, g47, g48, e2, e3, e4, e5, e6]); (case hb => (intro hc; (try simp (disch := first | omega | assumption) only [↓reduceIte, go_sem, g0, g1, g5, g42, g43, e1, g7, g47, g48, e2, e3, e4, e5, e6] at hc); simp (disch := first | omega | assumption) only [↓reduceIte, go_sem, hc, g0, g1, g5, g42, g43, e1, g7, g47, g48, e2, e3, e4, e5, e6])); (try simp (disch := first | omega | assumption) only [↓reduceIte, go_sem, g0, g1, g5, g42, g43, e1, g7, g47, g48, e2, e3, e4, e5, e6])) | (apply vopsQ_gu; (case hd => rfl); (case h1 => rfl); (case h2 => rfl); (case h3 => simp (disch := first | omega | assumption) only [↓reduceIte, go_sem, g0, g1, g5, g42, g43, e1, g7, g47, g48, e2, e3, e4, e5, e6]); (case hq => (intro hc K' hk'; (try simp (disch := first | omega | assumption) only [↓reduceIte, go_sem, g0, g1, g5, g42, g43, e1, g7, g47, g48, e2, e3, e4, e5, e6] at hc); repeat (first | simp (maxSteps := 4000000) (disch := first | omega | assumption) only [↓reduceIte, go_sem, hc, g0, g1, g5, g42, g43, e1, g7, g47, g48, e2, e3, e4, e5, e6] | with_reducible refine Gst.now ?_ | with_reducible refine vawp_draw mixed (by kernel_rfl) ?_ | with_reducible first | refine lwV_out ?_ | refine lwV_out0 ?_ | refine lkC_out ?_ | refine And.intro (by omega) ?_ | fail); exact hk')); (try simp (disch := first | omega | assumption) only [↓reduceIte, go_sem, g0, g1, g5, g42, g43, e1, g7, g47, g48, e2, e3, e4, e5, e6])) | fail)
                simp only [vopsQ_nil]
                repeat (first | (simp (maxSteps := 1000000) only [↓reduceIte, go_sem, g0, g1, g5, g42, g43, e1, g7, g47, g48, e2, e3, e4, e5, e6]) | (simp (maxSteps := 1000000) (disch := first | omega | assumption) only [BB, g0, g1, g5, g42, g43, e1, g7, g47, g48, e2, e3, e4, e5, e6]) | with_reducible refine Gst.now ?_ | with_reducible refine vawp_draw mixed (by kernel_rfl) ?_ | with_reducible first | refine lwV_out ?_ | refine lwV_out0 ?_ | refine lkC_out ?_ | refine And.intro (by omega) ?_ | fail)
                exact ⟨c2 - 1, by omega, k + 1, by omega, hT.symm, rfl⟩
              have e5 := decide_eq_true hm0
              have e6 := eq_true hm0
              by_cases hmm : m ≤ m2
              case neg =>
                have e7 := decide_eq_false hmm
                have e8 := eq_false hmm
                try simp only [vawp_seq_eq, vawp_block_eq]
                with_reducible refine vawp_regq ?_
                simp only [List.toList_toArray]
                repeat (first | (apply vopsQ_pk; (case hd => rfl); (case h1 => simp (disch := first | omega | assumption) only [↓reduceIte, go_sem, g0, g1, g5, g42, g43, e1, g7, g47, g48, e2, e3, e4, e5, e6, e7, e8]); (case h2 => simp (disch := first | omega | assumption) only [↓reduceIte, go_sem, g0, g1, g5, g42, g43, e1, g7, g47, g48, e2, e3, e4, e5, e6, e7, e8]); (case h3 => simp (disch := first | omega | assumption) only [↓reduceIte, go_sem, g0, g1, g5, g42, g43, e1, g7, g47, g48, e2, e3, e4, e5, e6, e7, e8]); (case hb => simp (disch := first | omega | assumption) only [↓reduceIte, go_sem, g0, g1, g5, g42, g43, e1, g7, g47, g48, e2, e3, e4, e5, e6, e7, e8]); (try simp (disch := first | omega | assumption) only [↓reduceIte, go_sem, g0, g1, g5, g42, g43, e1, g7, g47, g48, e2, e3, e4, e5, e6, e7, e8])) | (apply vopsQ_n; (case hd => rfl); (case hq => (intro K' hk'; repeat (first | simp (maxSteps := 4000000) (disch := first | omega | assumption) only [↓reduceIte, go_sem, g0, g1, g5, g42, g43, e1, g7, g47, g48, e2, e3, e4, e5, e6, e7, e8] | with_reducible refine Gst.now ?_ | with_reducible refine vawp_draw mixed (by kernel_rfl) ?_ | with_reducible first | refine lwV_out ?_ | refine lwV_out0 ?_ | refine lkC_out ?_ | refine And.intro (by omega) ?_ | fail); exact hk'))) | (apply vopsQ_gt; (case hd => rfl); (case h1 => rfl); (case h2 => rfl); (case h3 => simp (disch := first | omega | assumption) only [↓reduceIte, go_sem]); (case hq => (intro K' hk'; repeat (first | simp (maxSteps := 4000000) (disch := first | omega | assumption) only [↓reduceIte, go_sem, g0, g1, g5, g42, g43, e1, g7, g47, g48, e2, e3, e4, e5, e6, e7, e8] | with_reducible refine Gst.now ?_ | with_reducible refine vawp_draw mixed (by kernel_rfl) ?_ | with_reducible first | refine lwV_out ?_ | refine lwV_out0 ?_ | refine lkC_out ?_ | refine And.intro (by omega) ?_ | fail); exact hk'))) | (apply vopsQ_gf'; (case hd => rfl); (case h1 => rfl); (case h2 => rfl); (case h3 => simp (disch := first | omega | assumption) only [↓reduceIte, go_sem, g0, g1, g5, g42, g43, e1, g7, g47, g48, e2, e3, e4, e5, e6, e7, e8])) | (apply vopsQ_gj; (case hd => rfl); (case h1 => rfl); (case h2 => rfl); (case h3 => simp (disch := first | omega | assumption) only [↓reduceIte, go_sem, g0, g1, g5, g42, g43, e1, g7, g47, g48, e2, e3, e4, e5, e6, e7, e8])) | (apply vopsQ_gpk; (case hd => rfl); (case h1 => rfl); (case h2 => rfl); (case h3 => simp (disch := first | omega | assumption) only [↓reduceIte, go_sem, g0, g1, g5, g42, g43, e1, g7, g47, g48, e2, e3, e4, e5, e6, e7, e8]); (case k1 => simp (disch := first | omega | assumption) only [↓reduceIte, go_sem, g0, g1, g5, g42, g43, e1, g7, g47, g48, e2, e3, e4, e5, e6, e7, e8]); (case k2 => simp (disch := first | omega | assumption) only [↓reduceIte, go_sem, g0, g1, g5, g42, g43, e1, g7, g47, g48, e2, e3, e4, e5, e6, e7, e8]); (case k3 => simp (disch := first | omega | assumption) only [↓reduceIte, go_sem, g0, g1, g5, g42, g43, e1, g7, g47, g48, e2, e3, e4, e5, e6, e7, e8]); (case hb => (intro hc; (try simp (disch := first | omega | assumption) only [↓reduceIte, go_sem, g0, g1, g5, g42, g43, e1, g7, g47, g48, e2, e3, e4, e5, e6, e7, e8] at hc); simp (disch := first | omega | assumption) only [↓reduceIte, go_sem, hc, g0, g1, g5, g42, g43, e1, g7, g47, g48, e2, e3, e4, e5, e6, e7, e8])); (try simp (disch := first | omega | assumption) only [↓reduceIte, go_sem, g0, g1, g5, g42, g43, e1, g7, g47, g48, e2, e3, e4, e5, e6, e7, e8])) | (apply vopsQ_gu; (case hd => rfl); (case h1 => rfl); (case h2 => rfl); (case h3 => simp (disch := first | omega | assumption) only [↓reduceIte, go_sem, g0, g1, g5, g42, g43, e1, g7, g47, g48, e2, e3, e4, e5, e6, e7, e8]); (case hq => (intro hc K' hk'; (try simp (disch := first | omega | assumption) only [↓reduceIte, go_sem, g0, g1, g5, g42, g43, e1, g7, g47, g48, e2, e3, e4, e5, e6, e7, e8] at hc); repeat (first | simp (maxSteps := 4000000) (disch := first | omega | assumption) only [↓reduceIte, go_sem, hc, g0, g1, g5, g42, g43, e1, g7, g47, g48, e2, e3, e4, e5, e6, e7, e8] | with_reducible refine Gst.now ?_ | with_reducible refine vawp_draw mixed (by kernel_rfl) ?_ | with_reducible first | refine lwV_out ?_ | refine lwV_out0 ?_ | refine lkC_out ?_ | refine And.intro (by omega) ?_ | fail); exact hk')); (try simp (disch := first | omega | assumption) only [↓reduceIte, go_sem, g0, g1, g5, g42, g43, e1, g7, g47, g48, e2, e3, e4, e5, e6, e7, e8])) | fail)
                simp only [vopsQ_nil]
                repeat (first | (simp (maxSteps := 1000000) only [↓reduceIte, go_sem, g0, g1, g5, g42, g43, e1, g7, g47, g48, e2, e3, e4, e5, e6, e7, e8]) | (simp (maxSteps := 1000000) (disch := first | omega | assumption) only [BB, g0, g1, g5, g42, g43, e1, g7, g47, g48, e2, e3, e4, e5, e6, e7, e8]) | with_reducible refine Gst.now ?_ | with_reducible refine vawp_draw mixed (by kernel_rfl) ?_ | with_reducible first | refine lwV_out ?_ | refine lwV_out0 ?_ | refine lkC_out ?_ | refine And.intro (by omega) ?_ | fail)
                exact ⟨c2 - 1, by omega, k + 1, by omega, hT.symm, rfl⟩
              have e7 := decide_eq_true hmm
              have e8 := eq_true hmm
              have e9 : IntKind.i64.wrap ((m2 : Int) - (m : Nat)) = ((m2 - m : Nat) : Int) := by rw [IntKind.wrap_i64]; omega
              have hq := hpr hik hm0 hmm
              have e10 : (cb / 2 ^ (m2 - m) == ca) = false := by simpa using hq
              have e11 := decide_eq_false hq
              have e12 := eq_false hq
              try simp only [vawp_seq_eq, vawp_block_eq]
              with_reducible refine vawp_regq ?_
              simp only [List.toList_toArray]
              repeat (first | (apply vopsQ_pk; (case hd => rfl); (case h1 => simp (disch := first | omega | assumption) only [↓reduceIte, go_sem, g0, g1, g5, g42, g43, e1, g7, g47, g48, e2, e3, e4, e5, e6, e7, e8, e9, e10, e11, e12]); (case h2 => simp (disch := first | omega | assumption) only [↓reduceIte, go_sem, g0, g1, g5, g42, g43, e1, g7, g47, g48, e2, e3, e4, e5, e6, e7, e8, e9, e10, e11, e12]); (case h3 => simp (disch := first | omega | assumption) only [↓reduceIte, go_sem, g0, g1, g5, g42, g43, e1, g7, g47, g48, e2, e3, e4, e5, e6, e7, e8, e9, e10, e11, e12]); (case hb => simp (disch := first | omega | assumption) only [↓reduceIte, go_sem, g0, g1, g5, g42, g43, e1, g7, g47, g48, e2, e3, e4, e5, e6, e7, e8, e9, e10, e11, e12]); (try simp (disch := first | omega | assumption) only [↓reduceIte, go_sem, g0, g1, g5, g42, g43, e1, g7, g47, g48, e2, e3, e4, e5, e6, e7, e8, e9, e10, e11, e12])) | (apply vopsQ_n; (case hd => rfl); (case hq => (intro K' hk'; repeat (first | simp (maxSteps := 4000000) (disch := first | omega | assumption) only [↓reduceIte, go_sem, g0, g1, g5, g42, g43, e1, g7, g47, g48, e2, e3, e4, e5, e6, e7, e8, e9, e10, e11, e12] | with_reducible refine Gst.now ?_ | with_reducible refine vawp_draw mixed (by kernel_rfl) ?_ | with_reducible first | refine lwV_out ?_ | refine lwV_out0 ?_ | refine lkC_out ?_ | refine And.intro (by omega) ?_ | fail); exact hk'))) | (apply vopsQ_gt; (case hd => rfl); (case h1 => rfl); (case h2 => rfl); (case h3 => simp (disch := first | omega | assumption) only [↓reduceIte, go_sem]); (case hq => (intro K' hk'; repeat (first | simp (maxSteps := 4000000) (disch := first | omega | assumption) only [↓reduceIte, go_sem, g0, g1, g5, g42, g43, e1, g7, g47, g48, e2, e3, e4, e5, e6, e7, e8, e9, e10, e11, e12] | with_reducible refine Gst.now ?_ | with_reducible refine vawp_draw mixed (by kernel_rfl) ?_ | with_reducible first | refine lwV_out ?_ | refine lwV_out0 ?_ | refine lkC_out ?_ | refine And.intro (by omega) ?_ | fail); exact hk'))) | (apply vopsQ_gf'; (case hd => rfl); (case h1 => rfl); (case h2 => rfl); (case h3 => simp (disch := first | omega | assumption) only [↓reduceIte, go_sem, g0, g1, g5, g42, g43, e1, g7, g47, g48, e2, e3, e4, e5, e6, e7, e8, e9, e10, e11, e12])) | (apply vopsQ_gj; (case hd => rfl); (case h1 => rfl); (case h2 => rfl); (case h3 => simp (disch := first | omega | assumption) only [↓reduceIte, go_sem, g0, g1, g5, g42, g43, e1, g7, g47, g48, e2, e3, e4, e5, e6, e7, e8, e9, e10, e11, e12])) | (apply vopsQ_gpk; (case hd => rfl); (case h1 => rfl); (case h2 => rfl); (case h3 => simp (disch := first | omega | assumption) only [↓reduceIte, go_sem, g0, g1, g5, g42, g43, e1, g7, g47, g48, e2, e3, e4, e5, e6, e7, e8, e9, e10, e11, e12]); (case k1 => simp (disch := first | omega | assumption) only [↓reduceIte, go_sem, g0, g1, g5, g42, g43, e1, g7, g47, g48, e2, e3, e4, e5, e6, e7, e8, e9, e10, e11, e12]); (case k2 => simp (disch := first | omega | assumption) only [↓reduceIte, go_sem, g0, g1, g5, g42, g43, e1, g7, g47, g48, e2, e3, e4, e5, e6, e7, e8, e9, e10, e11, e12]); (case k3 => simp (disch := first | omega | assumption) only [↓reduceIte, go_sem, g0, g1, g5, g42, g43, e1, g7, g47, g48, e2, e3, e4, e5, e6, e7, e8, e9, e10, e11, e12]); (case hb => (intro hc; (try simp (disch := first | omega | assumption) only [↓reduceIte, go_sem, g0, g1, g5, g42, g43, e1, g7, g47, g48, e2, e3, e4, e5, e6, e7, e8, e9, e10, e11, e12] at hc); simp (disch := first | omega | assumption) only [↓reduceIte, go_sem, hc, g0, g1, g5, g42, g43, e1, g7, g47, g48, e2, e3, e4, e5, e6, e7, e8, e9, e10, e11, e12])); (try simp (disch := first | omega | assumption) only [↓reduceIte, go_sem, g0, g1, g5, g42, g43, e1, g7, g47, g48, e2, e3, e4, e5, e6, e7, e8, e9, e10, e11, e12])) | (apply vopsQ_gu; (case hd => rfl); (case h1 => rfl); (case h2 => rfl); (case h3 => simp (disch := first | omega | assumption) only [↓reduceIte, go_sem, g0, g1, g5, g42, g43, e1, g7, g47, g48, e2, e3, e4, e5, e6, e7, e8, e9, e10, e11, e12]); (case hq => (intro hc K' hk'; (try simp (disch := first | omega | assumption) only [↓reduceIte, go_sem, g0, g1, g5, g42, g43, e1, g7, g47, g48, e2, e3, e4, e5, e6, e7, e8, e9, e10, e11, e12] at hc); repeat (first | simp (maxSteps := 4000000) (disch := first | omega | assumption) only [↓reduceIte, go_sem, hc, g0, g1, g5, g42, g43, e1, g7, g47, g48, e2, e3, e4, e5, e6, e7, e8, e9, e10, e11, e12] | with_reducible refine Gst.now ?_ | with_reducible refine vawp_draw mixed (by kernel_rfl) ?_ | with_reducible first | refine lwV_out ?_ | refine lwV_out0 ?_ | refine lkC_out ?_ | refine And.intro (by omega) ?_ | fail); exact hk')); (try simp (disch := first | omega | assumption) only [↓reduceIte, go_sem, g0, g1, g5, g42, g43, e1, g7, g47, g48, e2, e3, e4, e5, e6, e7, e8, e9, e10, e11, e12])) | fail)
              simp only [vopsQ_nil]
              repeat (first | (simp (maxSteps := 1000000) only [↓reduceIte, go_sem, g0, g1, g5, g42, g43, e1, g7, g47, g48, e2, e3, e4, e5, e6, e7, e8, e9, e10, e11, e12]) | (simp (maxSteps := 1000000) (disch := first | omega | assumption) only [BB, g0, g1, g5, g42, g43, e1, g7, g47, g48, e2, e3, e4, e5, e6, e7, e8, e9, e10, e11, e12]) | with_reducible refine Gst.now ?_ | with_reducible refine vawp_draw mixed (by kernel_rfl) ?_ | with_reducible first | refine lwV_out ?_ | refine lwV_out0 ?_ | refine lkC_out ?_ | refine And.intro (by omega) ?_ | fail)
              exact ⟨c2 - 1, by omega, k + 1, by omega, hT.symm, rfl⟩
            · have e2 := eq_false hk
              repeat (first | (simp (maxSteps := 1000000) only [↓reduceIte, go_sem, g0, g1, g5, g42, g43, e1, g7, g47, g48, e2]) | (simp (maxSteps := 1000000) (disch := first | omega | assumption) only [BB, g0, g1, g5, g42, g43, e1, g7, g47, g48, e2]) | with_reducible refine Gst.now ?_ | with_reducible refine vawp_draw mixed (by kernel_rfl) ?_ | with_reducible first | refine lwV_out ?_ | refine lwV_out0 ?_ | refine lkC_out ?_ | refine And.intro (by omega) ?_ | fail)
              exact ⟨c - 1, by omega, i + 1, by omega, rfl⟩
        · have e1 := eq_false hi
          repeat (first | (simp (maxSteps := 1000000) only [↓reduceIte, go_sem, g0, g1, g5, g42, g43, e1]) | (simp (maxSteps := 1000000) (disch := first | omega | assumption) only [BB, g0, g1, g5, g42, g43, e1]) | with_reducible refine Gst.now ?_ | with_reducible refine vawp_draw mixed (by kernel_rfl) ?_ | with_reducible first | refine lwV_out ?_ | refine lwV_out0 ?_ | refine lkC_out ?_ | refine And.intro (by omega) ?_ | fail)
          intro j hj
          repeat (first | (simp (maxSteps := 1000000) only [↓reduceIte, go_sem, g0, g1, g5, g42, g43, e1]) | (simp (maxSteps := 1000000) (disch := first | omega | assumption) only [BB, g0, g1, g5, g42, g43, e1]) | with_reducible refine Gst.now ?_ | with_reducible refine vawp_draw mixed (by kernel_rfl) ?_ | with_reducible first | refine lwV_out ?_ | refine lwV_out0 ?_ | refine lkC_out ?_ | refine And.intro (by omega) ?_ | fail)
          refine vBuildS_o bs22 ?_ ?_ ?_ ?_ ?_
          rfl
          rfl
          rfl
          rfl
          intro q hq0
          repeat (first | (simp (maxSteps := 1000000) only [↓reduceIte, go_sem, g0, g1, g5, g42, g43, e1]) | (simp (maxSteps := 1000000) (disch := first | omega | assumption) only [BB, g0, g1, g5, g42, g43, e1]) | with_reducible refine Gst.now ?_ | with_reducible refine vawp_draw mixed (by kernel_rfl) ?_ | with_reducible first | refine lwV_out ?_ | refine lwV_out0 ?_ | refine lkC_out ?_ | refine And.intro (by omega) ?_ | fail)
          have hW0 : WrH h1 j (wroteX ls []) (hset h1 j (.cells 49 false [.isl true 0 [], (.sc (.int .i64 (0)))])) := ⟨hj, .inl ⟨rfl, rfl⟩⟩
          have hW1 := (hW0.frame (b := .cells 3 false []) hq0).1
          have hq1 := hW0.none hq0
          refine vawp_loop (k := row.length) (fun c ρ h2 => ∃ (i q : Nat), c + i = row.length ∧ ρ 5 = .ip T 0 ∧ ρ 13 = .op j 0 ∧ ρ 14 = .own q 0 (wrote ls (row.take i)).length ∧ ρ 87 = .isl nl2 row.length (row.map (ivI .i64)) ∧ ρ 88 = (.sc (.int .i64 ((row.length : Nat)))) ∧ ρ 89 = (.sc (.int .i64 ((i : Nat)))) ∧ h1 q = none ∧ WrH (hset h1 q (.cells 3 false ((wrote ls (row.take i)).map (iv .i64)))) j (wroteX ls (wrote ls (row.take i))) h2) ?_ ?_
          · refine ⟨0, q, by omega, ?_⟩
            repeat (first | (simp (maxSteps := 1000000) only [↓reduceIte, go_sem, g0, g1, g5, g42, g43, e1]) | (simp (maxSteps := 1000000) (disch := first | omega | assumption) only [BB, g0, g1, g5, g42, g43, e1]) | with_reducible refine Gst.now ?_ | with_reducible refine vawp_draw mixed (by kernel_rfl) ?_ | with_reducible first | refine lwV_out ?_ | refine lwV_out0 ?_ | refine lkC_out ?_ | refine And.intro (by omega) ?_ | fail)
            exact ⟨rfl, hq1, hW1⟩
          · clear hW1 hq1 hW0 hq0 q
            rintro c ρ h2 ⟨i, q, hc, g5, g13, g14, g87, g88, g89, hq0, hW⟩
            by_cases hi : i < row.length
            · have e2 := eq_true hi
              have htk := wrote_take (ls := ls) hi
              have hwl := Nat.le_trans (wrote_len ls (row.take i)) (List.length_take_le _ _)
              have hxl := wroteX_len h15 (wrote ls (row.take i))
              repeat (first | (simp (maxSteps := 1000000) only [↓reduceIte, go_sem, g0, g1, g5, g42, g43, e1, g13, g14, g87, g88, g89, e2]) | (simp (maxSteps := 1000000) (disch := first | omega | assumption) only [BB, g0, g1, g5, g42, g43, e1, g13, g14, g87, g88, g89, e2]) | with_reducible refine Gst.now ?_ | with_reducible refine vawp_draw mixed (by kernel_rfl) ?_ | with_reducible first | refine lwV_out ?_ | refine lwV_out0 ?_ | refine lkC_out ?_ | refine And.intro (by omega) ?_ | fail)
              generalize row.getD i 0 = s at *
              rw [← hT]
              with_reducible refine call_ok ?_
              refine tcode_v hb3 ?_
              rw [hT]
              by_cases hp : 0 < (codeR ls s).2
              case neg =>
                rw [if_neg hp, List.append_nil] at htk
                have e3 := eq_false hp
                repeat (first | (simp (maxSteps := 1000000) only [↓reduceIte, go_sem, g0, g1, g5, g42, g43, e1, g13, g14, g87, g88, g89, e2, e3]) | (simp (maxSteps := 1000000) (disch := first | omega | assumption) only [BB, g0, g1, g5, g42, g43, e1, g13, g14, g87, g88, g89, e2, e3]) | with_reducible refine Gst.now ?_ | with_reducible refine vawp_draw mixed (by kernel_rfl) ?_ | with_reducible first | refine lwV_out ?_ | refine lwV_out0 ?_ | refine lkC_out ?_ | refine And.intro (by omega) ?_ | fail)
                refine ⟨c - 1, by omega, i + 1, q, by omega, ?_⟩
                rw [htk]
                exact ⟨⟨rfl, rfl⟩, rfl, hq0, hW⟩
              obtain ⟨hs1, hs2, hs3, hs4⟩ := codeR_pos hp
              rw [if_pos hp] at htk
              rw [hs4]
              generalize s.toNat = u at *
              subst hs1
              have e3 := eq_true hs3
              have h15u := hlx u
              have hpu := hpw u hs2 hs3
              have hp15 : 2 ^ ls.getD u 0 ≤ 32768 := (Nat.pow_le_pow_right (by omega) h15u : 2 ^ ls.getD u 0 ≤ 2 ^ 15)
              repeat (first | (simp (maxSteps := 1000000) only [↓reduceIte, go_sem, g0, g1, g5, g42, g43, e1, g13, g14, g87, g88, g89, e2, e3]) | (simp (maxSteps := 1000000) (disch := first | omega | assumption) only [BB, g0, g1, g5, g42, g43, e1, g13, g14, g87, g88, g89, e2, e3]) | with_reducible refine Gst.now ?_ | with_reducible refine vawp_draw mixed (by kernel_rfl) ?_ | with_reducible first | refine lwV_out ?_ | refine lwV_out0 ?_ | refine lkC_out ?_ | refine And.intro (by omega) ?_ | fail)
              with_reducible refine call_ok ?_
              refine code_v hW (wroteX_bits _ _) (by omega) (by omega) fun h3 hW3 => ?_
              rw [hs32_15 h15u] at hW3
              repeat (first | (simp (maxSteps := 1000000) only [↓reduceIte, go_sem, g0, g1, g5, g42, g43, e1, g13, g14, g87, g88, g89, e2, e3]) | (simp (maxSteps := 1000000) (disch := first | omega | assumption) only [BB, g0, g1, g5, g42, g43, e1, g13, g14, g87, g88, g89, e2, e3]) | with_reducible refine Gst.now ?_ | with_reducible refine vawp_draw mixed (by kernel_rfl) ?_ | with_reducible first | refine lwV_out ?_ | refine lwV_out0 ?_ | refine lkC_out ?_ | refine And.intro (by omega) ?_ | fail)
              refine vBuildS_i bs22 ?_ ?_ ?_ ?_ ?_
              rfl
              rfl
              rfl
              rfl
              repeat (first | (simp (maxSteps := 1000000) only [↓reduceIte, go_sem]) | (simp (maxSteps := 1000000) (disch := first | omega | assumption) only [BB]) | with_reducible refine Gst.now ?_ | with_reducible refine vawp_draw mixed (by kernel_rfl) ?_ | with_reducible first | refine lwV_out ?_ | refine lwV_out0 ?_ | refine lkC_out ?_ | refine And.intro (by omega) ?_ | fail)
              have hq3 := hW3.below (hset_at _ _ _)
              apply vApp_own_isl ap22 (by simp only [go_sem])
              case hv => first | (simp []; done) | (simp []; omega) | rfl | assumption
              case hj => repeat (first | exact hset_at _ _ _ | assumption | refine (hset_ne _ _ (by first | omega | assumption)).trans ?_ | refine (hdel_ne _ (by first | omega | assumption)).trans ?_ | fail)
              case hl => first | (simp []; done) | (simp []; omega) | rfl | assumption
              case h1 => first | omega | (simp []; omega) | (simp []; done)
              case h2 => first | omega | (simp []; omega) | (simp []; done)
              intro q2 hq1
              have hW4 := hW3.del (hset_at _ _ _)
              rw [hdel_hset hq0] at hW4
              have hW5 := (hW4.frame (b := .cells 3 false ((wrote ls (row.take (i + 1))).map (iv .i64))) hq1).1
              have hq2 := hW4.none hq1
              rw [htk, List.map_append, ← wroteX_one, ← wroteX_app] at hW5
              repeat (first | (simp (maxSteps := 1000000) only [↓reduceIte, go_sem, g0, g1, g5, g42, g43, e1, g13, g14, g87, g88, g89, e2, e3]) | (simp (maxSteps := 1000000) (disch := first | omega | assumption) only [BB, g0, g1, g5, g42, g43, e1, g13, g14, g87, g88, g89, e2, e3]) | with_reducible refine Gst.now ?_ | with_reducible refine vawp_draw mixed (by kernel_rfl) ?_ | with_reducible first | refine lwV_out ?_ | refine lwV_out0 ?_ | refine lkC_out ?_ | refine And.intro (by omega) ?_ | fail)
              refine ⟨c - 1, by omega, i + 1, q2, by omega, ?_⟩
              rw [htk, List.length_append, List.map_append]
              exact ⟨⟨rfl, rfl⟩, rfl, hq2, hW5⟩
            · have e2 := eq_false hi
              have hii : i = row.length := by omega
              subst hii
              rw [List.take_length] at hW g14
              have hwl := wrote_len ls row
              have hmem := wrote_mem (ls := ls) (row := row)
              generalize wrote ls row = ms at *
              have hxl := wroteX_len h15 ms
              have htl : ∀ i, (wroteX ls (ms.take i)).length ≤ (wroteX ls ms).length := fun i => by
                have h := wroteX_app ls (ms.take i) (ms.drop i)
                rw [List.take_append_drop] at h
                rw [h, List.length_append]; omega
              have hrn := fun i (hi : i < ms.length) => readL_next h15 hs hmem hi
              have hq3 := hW.below (hset_at _ _ _)
              have hW2 := hW.del (hset_at _ _ _)
              rw [hdel_hset hq0] at hW2
              repeat (first | (simp (maxSteps := 1000000) only [↓reduceIte, go_sem, g0, g1, g5, g42, g43, e1, g13, g14, g87, g88, g89, e2]) | (simp (maxSteps := 1000000) (disch := first | omega | assumption) only [BB, g0, g1, g5, g42, g43, e1, g13, g14, g87, g88, g89, e2]) | with_reducible refine vawp_draw mixed (by kernel_rfl) ?_ | with_reducible first | refine lwV_out ?_ | refine lwV_out0 ?_ | refine lkC_out ?_ | refine And.intro (by omega) ?_ | fail)
              refine .frz1 (l := ms.length) 14 q hq3 (by simp only [go_sem, g14]) (.now ?_)
              have hXb := wroteX_bits ls ms
              have hb8 := packB_bytes hXb
              have hpl := packB_len (wroteX ls ms)
              generalize hX : wroteX ls ms = X at *
              generalize hh2 : hdel h2 q = h3 at *
              repeat (first | (simp (maxSteps := 1000000) only [↓reduceIte, go_sem, g0, g1, g5, g42, g43, e1, g13, g14, g87, g88, g89, e2]) | (simp (maxSteps := 1000000) (disch := first | omega | assumption) only [BB, g0, g1, g5, g42, g43, e1, g13, g14, g87, g88, g89, e2]) | with_reducible refine Gst.now ?_ | with_reducible refine vawp_draw mixed (by kernel_rfl) ?_ | with_reducible first | refine lwV_out ?_ | refine lwV_out0 ?_ | refine lkC_out ?_ | refine And.intro (by omega) ?_ | fail)
              with_reducible refine call_ok ?_
              refine done_v hW2 (by omega) fun nl3 hnl3 => ?_
              repeat (first | (simp (maxSteps := 1000000) only [↓reduceIte, go_sem, g0, g1, g5, g42, g43, e1, g13, g14, g87, g88, g89, e2]) | (simp (maxSteps := 1000000) (disch := first | omega | assumption) only [BB, g0, g1, g5, g42, g43, e1, g13, g14, g87, g88, g89, e2]) | with_reducible refine Gst.now ?_ | with_reducible refine vawp_draw mixed (by kernel_rfl) ?_ | with_reducible first | refine lwV_out ?_ | refine lwV_out0 ?_ | refine lkC_out ?_ | refine And.intro (by omega) ?_ | fail)
              with_reducible refine call_ok ?_
              refine bread_v rfl fun r hr => ?_
              repeat (first | (simp (maxSteps := 1000000) only [↓reduceIte, go_sem, g0, g1, g5, g42, g43, e1, g13, g14, g87, g88, g89, e2]) | (simp (maxSteps := 1000000) (disch := first | omega | assumption) only [BB, g0, g1, g5, g42, g43, e1, g13, g14, g87, g88, g89, e2]) | with_reducible refine Gst.now ?_ | with_reducible refine vawp_draw mixed (by kernel_rfl) ?_ | with_reducible first | refine lwV_out ?_ | refine lwV_out0 ?_ | refine lkC_out ?_ | refine And.intro (by omega) ?_ | fail)
              have hW5 := (hW2.frame (b := .cells 62 false (RdB nl3 (packB X) X.length)) hr).1
              refine vawp_loop (k := ms.length) (fun c ρ h4 => ∃ i : Nat, c + i = ms.length ∧ ρ 5 = .ip T 0 ∧ ρ 13 = .op j 0 ∧ ρ 19 = .op r 0 ∧ ρ 111 = .isl false ms.length (ms.map (iv .i64)) ∧ ρ 112 = (.sc (.int .i64 ((ms.length : Nat)))) ∧ ρ 113 = (.sc (.int .i64 ((i : Nat)))) ∧ h4 = hset h3 r (.cells 62 false (RdB nl3 (packB X) (wroteX ls (ms.take i)).length))) ?_ ?_
              · refine ⟨0, by omega, ?_⟩
                repeat (first | (simp (maxSteps := 1000000) only [↓reduceIte, go_sem, g0, g1, g5, g42, g43, e1, g13, g14, g87, g88, g89, e2]) | (simp (maxSteps := 1000000) (disch := first | omega | assumption) only [BB, g0, g1, g5, g42, g43, e1, g13, g14, g87, g88, g89, e2]) | with_reducible refine Gst.now ?_ | with_reducible refine vawp_draw mixed (by kernel_rfl) ?_ | with_reducible first | refine lwV_out ?_ | refine lwV_out0 ?_ | refine lkC_out ?_ | refine And.intro (by omega) ?_ | fail)
                rfl
              · rintro c ρ h4 ⟨i, hc, g5, g13, g19, g111, g112, g113, rfl⟩
                by_cases hi : i < ms.length
                · have e3 := eq_true hi
                  have hread := hrn i hi
                  repeat (first | (simp (maxSteps := 1000000) only [↓reduceIte, go_sem, g0, g1, g5, g42, g43, e1, g13, g14, g87, g88, g89, e2, g19, g111, g112, g113, e3]) | (simp (maxSteps := 1000000) (disch := first | omega | assumption) only [BB, g0, g1, g5, g42, g43, e1, g13, g14, g87, g88, g89, e2, g19, g111, g112, g113, e3]) | with_reducible refine Gst.now ?_ | with_reducible refine vawp_draw mixed (by kernel_rfl) ?_ | with_reducible first | refine lwV_out ?_ | refine lwV_out0 ?_ | refine lkC_out ?_ | refine And.intro (by omega) ?_ | fail)
                  rw [← hT]
                  have hti := htl i
                  with_reducible refine call_ok ?_
                  refine tread_v hb3 h15 hs (blkV_iff.2 (hset_at _ _ _)) hb8 (by omega) (by omega) fun s e a' hr => ?_
                  rw [hread] at hr
                  simp only [Prod.mk.injEq] at hr
                  obtain ⟨rfl, rfl, rfl⟩ := hr
                  rw [hset_hset]
                  repeat (first | (simp (maxSteps := 1000000) only [↓reduceIte, go_sem, g0, g1, g5, g42, g43, e1, g13, g14, g87, g88, g89, e2, g19, g111, g112, g113, e3]) | (simp (maxSteps := 1000000) (disch := first | omega | assumption) only [BB, g0, g1, g5, g42, g43, e1, g13, g14, g87, g88, g89, e2, g19, g111, g112, g113, e3]) | with_reducible refine vawp_draw mixed (by kernel_rfl) ?_ | with_reducible first | refine lwV_out ?_ | refine lwV_out0 ?_ | refine lkC_out ?_ | refine And.intro (by omega) ?_ | fail)
                  first | (with_reducible refine Gst.now ?_) | (with_reducible refine lkC_out ?_; simp only [vawp_skip_eq, thenV_normal]; with_reducible refine Gst.now ?_) | (with_reducible refine lkC_out ?_)
                  try simp only [vawp_seq_eq, vawp_block_eq]
                  with_reducible refine vawp_regq ?_
                  simp only [List.toList_toArray]
                  repeat (first | (apply vopsQ_pk; (case hd => rfl); (case h1 => simp (disch := first | omega | assumption) only [↓reduceIte, go_sem, g0, g1, g5, g42, g43, e1, g13, g14, g87, g88, g89, e2, g19, g111, g112, g113, e3]); (case h2 => simp (disch := first | omega | assumption) only [↓reduceIte, go_sem, g0, g1, g5, g42, g43, e1, g13, g14, g87, g88, g89, e2, g19, g111, g112, g113, e3]); (case h3 => simp (disch := first | omega | assumption) only [↓reduceIte, go_sem, g0, g1, g5, g42, g43, e1, g13, g14, g87, g88, g89, e2, g19, g111, g112, g113, e3]); (case hb => simp (disch := first | omega | assumption) only [↓reduceIte, go_sem, g0, g1, g5, g42, g43, e1, g13, g14, g87, g88, g89, e2, g19, g111, g112, g113, e3]); (try simp (disch := first | omega | assumption) only [↓reduceIte, go_sem, g0, g1, g5, g42, g43, e1, g13, g14, g87, g88, g89, e2, g19, g111, g112, g113, e3])) | (apply vopsQ_n; (case hd => rfl); (case hq => (intro K' hk'; repeat (first | simp (maxSteps := 4000000) (disch := first | omega | assumption) only [↓reduceIte, go_sem, g0, g1, g5, g42, g43, e1, g13, g14, g87, g88, g89, e2, g19, g111, g112, g113, e3] | with_reducible refine Gst.now ?_ | with_reducible refine vawp_draw mixed (by kernel_rfl) ?_ | with_reducible first | refine lwV_out ?_ | refine lwV_out0 ?_ | refine lkC_out ?_ | refine And.intro (by omega) ?_ | fail); exact hk'))) | (apply vopsQ_gt; (case hd => rfl); (case h1 => rfl); (case h2 => rfl); (case h3 => simp (disch := first | omega | assumption) only [↓reduceIte, go_sem]); (case hq => (intro K' hk'; repeat (first | simp (maxSteps := 4000000) (disch := first | omega | assumption) only [↓reduceIte, go_sem, g0, g1, g5, g42, g43, e1, g13, g14, g87, g88, g89, e2, g19, g111, g112, g113, e3] | with_reducible refine Gst.now ?_ | with_reducible refine vawp_draw mixed (by kernel_rfl) ?_ | with_reducible first | refine lwV_out ?_ | refine lwV_out0 ?_ | refine lkC_out ?_ | refine And.intro (by omega) ?_ | fail); exact hk'))) | (apply vopsQ_gf'; (case hd => rfl); (case h1 => rfl); (case h2 => rfl); (case h3 => simp (disch := first | omega | assumption) only [↓reduceIte, go_sem, g0, g1, g5, g42, g43, e1, g13, g14, g87, g88, g89, e2, g19, g111, g112, g113, e3])) | (apply vopsQ_gj; (case hd => rfl); (case h1 => rfl); (case h2 => rfl); (case h3 => simp (disch := first | omega | assumption) only [↓reduceIte, go_sem, g0, g1, g5, g42, g43, e1, g13, g14, g87, g88, g89, e2, g19, g111, g112, g113, e3])) | (apply vopsQ_gpk; (case hd => rfl); (case h1 => rfl); (case h2 => rfl); (case h3 => simp (disch := first | omega | assumption) only [↓reduceIte, go_sem, g0, g1, g5, g42, g43, e1, g13, g14, g87, g88, g89, e2, g19, g111, g112, g113, e3]); (case k1 => simp (disch := first | omega | assumption) only [↓reduceIte, go_sem, g0, g1, g5, g42, g43, e1, g13, g14, g87, g88, g89, e2, g19, g111, g112, g113, e3]); (case k2 => simp (disch := first | omega | assumption) only [↓reduceIte, go_sem, g0, g1, g5, g42, g43, e1, g13, g14, g87, g88, g89, e2, g19, g111, g112, g113, e3]); (case k3 => simp (disch := first | omega | assumption) only [↓reduceIte, go_sem, g0, g1, g5, g42, g43, e1, g13, g14, g87, g88, g89, e2, g19, g111, g112, g113, e3]); (case hb => (intro hc; (try simp (disch := first | omega | assumption) only [↓reduceIte, go_sem, g0, g1, g5, g42, g43, e1, g13, g14, g87, g88, g89, e2, g19, g111, g112, g113, e3] at hc); simp (disch := first | omega | assumption) only [↓reduceIte, go_sem, hc, g0, g1, g5, g42, g43, e1, g13, g14, g87, g88, g89, e2, g19, g111, g112, g113, e3])); (try simp (disch := first | omega | assumption) only [↓reduceIte, go_sem, g0, g1, g5, g42, g43, e1, g13, g14, g87, g88, g89, e2, g19, g111, g112, g113, e3])) | (apply vopsQ_gu; (case hd => rfl); (case h1 => rfl); (case h2 => rfl); (case h3 => simp (disch := first | omega | assumption) only [↓reduceIte, go_sem, g0, g1, g5, g42, g43, e1, g13, g14, g87, g88, g89, e2, g19, g111, g112, g113, e3]); (case hq => (intro hc K' hk'; (try simp (disch := first | omega | assumption) only [↓reduceIte, go_sem, g0, g1, g5, g42, g43, e1, g13, g14, g87, g88, g89, e2, g19, g111, g112, g113, e3] at hc); repeat (first | simp (maxSteps := 4000000) (disch := first | omega | assumption) only [↓reduceIte, go_sem, hc, g0, g1, g5, g42, g43, e1, g13, g14, g87, g88, g89, e2, g19, g111, g112, g113, e3] | with_reducible refine Gst.now ?_ | with_reducible refine vawp_draw mixed (by kernel_rfl) ?_ | with_reducible first | refine lwV_out ?_ | refine lwV_out0 ?_ | refine lkC_out ?_ | refine And.intro (by omega) ?_ | fail); exact hk')); (try simp (disch := first | omega | assumption) only [↓reduceIte, go_sem, g0, g1, g5, g42, g43, e1, g13, g14, g87, g88, g89, e2, g19, g111, g112, g113, e3])) | fail)
                  simp only [vopsQ_nil]
                  repeat (first | (simp (maxSteps := 1000000) only [↓reduceIte, go_sem, g0, g1, g5, g42, g43, e1, g13, g14, g87, g88, g89, e2, g19, g111, g112, g113, e3]) | (simp (maxSteps := 1000000) (disch := first | omega | assumption) only [BB, g0, g1, g5, g42, g43, e1, g13, g14, g87, g88, g89, e2, g19, g111, g112, g113, e3]) | with_reducible refine Gst.now ?_ | with_reducible refine vawp_draw mixed (by kernel_rfl) ?_ | with_reducible first | refine lwV_out ?_ | refine lwV_out0 ?_ | refine lkC_out ?_ | refine And.intro (by omega) ?_ | fail)
                  exact ⟨c - 1, by omega, i + 1, by omega, hT.symm, rfl, rfl⟩
                · have e3 := eq_false hi
                  have hii : i = ms.length := by omega
                  subst hii
                  rw [List.take_length, hX]
                  repeat (first | (simp (maxSteps := 1000000) only [↓reduceIte, go_sem, g0, g1, g5, g42, g43, e1, g13, g14, g87, g88, g89, e2, g19, g111, g112, g113, e3]) | (simp (maxSteps := 1000000) (disch := first | omega | assumption) only [BB, g0, g1, g5, g42, g43, e1, g13, g14, g87, g88, g89, e2, g19, g111, g112, g113, e3]) | with_reducible refine Gst.now ?_ | with_reducible refine vawp_draw mixed (by kernel_rfl) ?_ | with_reducible first | refine lwV_out ?_ | refine lwV_out0 ?_ | refine lkC_out ?_ | refine And.intro (by omega) ?_ | fail)
                  with_reducible refine call_ok ?_
                  refine rat_v (blkV_iff.2 (hset_at _ _ _)) ?_
                  repeat (first | (simp (maxSteps := 1000000) only [↓reduceIte, go_sem, g0, g1, g5, g42, g43, e1, g13, g14, g87, g88, g89, e2, g19, g111, g112, g113, e3]) | (simp (maxSteps := 1000000) (disch := first | omega | assumption) only [BB, g0, g1, g5, g42, g43, e1, g13, g14, g87, g88, g89, e2, g19, g111, g112, g113, e3]) | with_reducible refine Gst.now ?_ | with_reducible refine vawp_draw mixed (by kernel_rfl) ?_ | with_reducible first | refine lwV_out ?_ | refine lwV_out0 ?_ | refine lkC_out ?_ | refine And.intro (by omega) ?_ | fail)
                  with_reducible refine call_ok ?_
                  refine len_v hW5 ?_
                  repeat (first | (simp (maxSteps := 1000000) only [↓reduceIte, go_sem, g0, g1, g5, g42, g43, e1, g13, g14, g87, g88, g89, e2, g19, g111, g112, g113, e3]) | (simp (maxSteps := 1000000) (disch := first | omega | assumption) only [BB, g0, g1, g5, g42, g43, e1, g13, g14, g87, g88, g89, e2, g19, g111, g112, g113, e3]) | with_reducible refine Gst.now ?_ | with_reducible refine vawp_draw mixed (by kernel_rfl) ?_ | with_reducible first | refine lwV_out ?_ | refine lwV_out0 ?_ | refine lkC_out ?_ | refine And.intro (by omega) ?_ | fail)
                  refine hq _ _ ?_
                  repeat (first | (simp (maxSteps := 1000000) only [↓reduceIte, go_sem, g0, g1, g5, g42, g43, e1, g13, g14, g87, g88, g89, e2, g19, g111, g112, g113, e3]) | (simp (maxSteps := 1000000) (disch := first | omega | assumption) only [BB, g0, g1, g5, g42, g43, e1, g13, g14, g87, g88, g89, e2, g19, g111, g112, g113, e3]) | with_reducible refine Gst.now ?_ | with_reducible refine vawp_draw mixed (by kernel_rfl) ?_ | with_reducible first | refine lwV_out ?_ | refine lwV_out0 ?_ | refine lkC_out ?_ | refine And.intro (by omega) ?_ | fail)
                  exact .now (hK _)
end
end Go.Proofs.Ytncicgfbnjneeaa.VBack
