/- lengths of codes, over the machine of values: whether they are right, their sum, how many there are of each. -/
import Derived.Test.YtncicgfbnjneeaaProg
import Derived.Test.YtncicgfbnjneeaaAbV16
import Derived.Test.YtncicgfbnjneeaaAbFacts
import Derived.Test.YtncicgfbnjneeaaAbBitsM
import Derived.Test.YtncicgfbnjneeaaAbVBits
import Derived.Test.YtncicgfbnjneeaaAbVBitsT
import Derived.KernelRfl
import Derived.Laws.BitsAllLaws
set_option linter.unusedVariables false
set_option linter.unusedSimpArgs false
set_option maxRecDepth 100000
set_option maxHeartbeats 4000000
namespace Go.Proofs.Ytncicgfbnjneeaa.VLen
open Go.RowKit Go.Proofs.AbM Go.Proofs.Ytncicgfbnjneeaa.Facts Go.Proofs.Ytncicgfbnjneeaa.BitsM Go.Proofs.Ytncicgfbnjneeaa.VBits Go.Proofs.Ytncicgfbnjneeaa.VBitsT
attribute [local go_sem] vawp_skip_eq vawp_seq_eq vawp_region_eq vawp_cond_g vawp_block_eq vawp_exit_eq vawp_ret_eq thenV_ret thenV_exit thenV_normal inBlockV_normal inBlockV_ret inBlockV_exit resKV_nil resKV_tmp resKV_cell oneV_one oneV_nil oneV_more initV_nil initV_cons updV_at evv_tmp evv_func evv_global evv_int evv_bool evv_str evv_snil evv_pnil evv_agg ofV3_int ofV3_bool ofV3_str ofV3_snil ofV3_pnil vok_tmp vok_func vok_global vok_int vok_bool vok_str vok_snil vok_pnil vok_agg cloV3_int cloV3_bool cloV3_str cloV3_snil cloV3_pnil voks_nil voks_cons scV_int scV_bool scV_str isBlV_b isBV_t isBV_f lwV_none lwV_sc lwV_agg lwV_tup lwV_isl lwV_own lwV_op lwV_ip lwV_fn lwV_junk vops_nil vops_n vops_s gsN_eq vop dstOk_some dstOk_none pkV_b blkV_set eRead_f eRead_t vLoad_op vLoad_ip vStore_op cells_sc cells_isl cells_own cells_op cells_ip cells_fn cells_agg parts_sc parts_isl parts_own parts_op parts_ip parts_fn parts_agg one_sc one_isl one_own one_op one_ip one_fn vField_op vField_ip ePart_f ePart_t vFieldV_agg vIx_isl vIx_own vIx_op vIx_ip vIxV_agg vIxV_str vLen_str vLen_isl vLen_own vLen_agg bndE_none bndE_int vSlice_isl vSlice_str vBin_add vBin_sub vBin_mul vBin_quo vBin_rem vBin_and vBin_or vBin_xor vBin_andNot vBin_eql vBin_neq vBin_lss vBin_leq vBin_gtr vBin_geq vBin_shr_i8 vBin_shl_i8 vBin_shr_i16 vBin_shl_i16 vBin_shr_i32 vBin_shl_i32 vBin_shr_i64 vBin_shl_i64 vBin_shr_u8 vBin_shl_u8 vBin_shr_u16 vBin_shl_u16 vBin_shr_u32 vBin_shl_u32 vBin_shr_u64 vBin_shl_u64 vBin_seq vBin_sne vBin_isln vBin_opn vBin_ipn ex_sc ex_sc2 ex_sc3 ex_tup calleeV wSc_pb wSc_pi wSc_not wSc_neg wSc_com wSc_min2 wSc_max2 vfold_nil vfold_one vfold_cons vfill_nil vfill_e eFill_s vBuild vBox vAlloc setV_map setV_zs setV_zn setV_s hset_hset eConv_ss vConv_e iv_eq ivI_eq ex_get ex_getI set_iv set_ivI okNil isNilV isSlV hdel_at hset_at List.map_toArray List.map_cons List.map_nil List.nil_append List.cons_append List.append_nil List.toList_toArray List.getElem?_toArray List.getElem_toArray List.getElem_cons_zero List.getElem_cons_succ List.getElem?_cons_zero List.getElem?_cons_succ List.set_cons_zero List.set_cons_succ List.set_set List.length_cons List.length_nil List.length_set List.length_map List.all_cons List.all_nil List.drop_zero List.drop_succ_cons List.take_succ_cons List.take_zero List.flatMap_cons Bool.and_eq_true true_and and_true if_true if_false ite_true ite_false forall_eq' forall_eq exists_eq_left exists_eq_left' exists_eq' Value.bool.injEq Value.int.injEq Value.string.injEq Value.pointer.injEq Option.some.injEq AV.sc.injEq AV.op.injEq AV.ip.injEq AV.own.injEq AV.agg.injEq VB.cells.injEq VB.iter.injEq Prod.mk.injEq decide_eq_true_eq decide_eq_false_iff_not Nat.reduceEqDiff Nat.reduceLT Nat.reduceLeDiff Nat.reduceSub Nat.reduceBEq reduceIte Int.reduceLE Int.reduceLT Int.reduceToNat Int.reduceNeg Int.reduceEq Int.reduceNe Int.cast_ofNat_Int Nat.reduceMul Nat.reduceAdd Nat.reduceDiv Nat.reduceMod Nat.reducePow Int.reduceSub Int.reduceAdd Int.reduceMul Int.reducePow Option.isSome_some Option.isSome_none Option.bind_some Option.map_some Option.map_none Option.toList_some Option.toList_none true_or or_true or_false false_or Bool.not_true Bool.not_false Bool.not_eq_true Bool.false_eq_true Bool.not_not false_implies true_implies implies_true Nat.zero_add Nat.add_zero Nat.mul_one Bool.not_eq_true' Bool.true_eq_false Bool.and_true Bool.true_and Bool.and_false Bool.false_and Bool.or_true Bool.true_or Bool.or_false Bool.false_or Option.isNone_some Option.isNone_none Int.reduceBEq Int.reduceBNe beq_self_eq_true bne_self_eq_false beq_iff_eq not_false_eq_true not_true_eq_false Decidable.not_not bne_iff_ne ne_eq Int.toNat_natCast gt_lt ge_le c_add c_mul c_sub c_addn c_nadd c_muln c_nmul c_subn c_nsub c_divn c_modn c_div c_mod c_tdivn c_tmodn c_tdiv c_tmod c_pow c_nn c_beq c_beqn c_bne c_bnen wr64 wr32 wru64 wru32 wru16 wru8 c_if c_if1 c_if2 c_lt c_le c_eq c_ltn c_len c_nlt c_nle c_eqn m_drop m_take Nat.add_sub_cancel_left Nat.add_sub_cancel Int.reduceTMod Int.reduceTDiv Int.reduceMod Int.reduceDiv isC_some hset_ne hdel_ne hdel_hset hdel_hset_ne blkV_nset blkV_ndel hset_hdel gV_t gV_f isGdV_b isGdV_u isBV_u isGdV_g isBV_gt isBV_gf decide_true decide_false Bool.or_eq_false_iff eq_self Nat.lt_irrefl Int.lt_irrefl Nat.le_refl Int.le_refl
attribute [local go_sem high] vops_pk vops_mv vops_as vops_smv pk_and pk_or pk_gand pk_gor pk_orn pk_gorn
attribute [local go_sem] ag3 sz3 zc3 ik3 ag4 sz4 zc4 ag5 sz5 zc5 ik5 ag22 sz22 el22 zc22 is22 ag24 sz24 el24 zc24 is24 ag25 sz25 zc25 ik25 ag30 sz30 zc30 ik30 ag31 sz31 zc31 pt31 ag38 sz38 el38 zc38 is38 ag39 sz39 zc39 pt39 ag49 sz49 zc49 bo49 ag54 sz54 ea54 an54 zc54 bo54 ag58 sz58 ea58 an58 zc58 bo58 ag60 sz60 zc60 bo60 ag62 sz62 zc62 bo62 ag68 sz68 zc68 pt68 ag72 sz72 zc72 ag73 sz73 ea73 an73 zc73 bo73 of49_0 fd49_0 of49_1 fd49_1 of60_0 fd60_0 of60_1 fd60_1 of60_2 fd60_2 of60_3 fd60_3 of60_4 fd60_4 of62_0 fd62_0 of62_1 fd62_1 eqb neb
section
variable {n : Nat} {h : VH} {K : AV → VH → Prop}
attribute [local go_sem] Nat.zero_le
def badL (l : Int) : Bool := decide (l < 0) || decide (15 < l)
theorem natL {xs : List Int} (h : xs.any badL = false) : ∃ ls : List Nat, xs = ls.map (fun (x : Nat) => (x : Int)) ∧ ∀ x ∈ ls, x ≤ 15 := by
  have hx : ∀ x ∈ xs, 0 ≤ x ∧ x ≤ 15 := fun x hx => by
    have := List.any_eq_false.1 h x hx
    simp only [badL, Bool.or_eq_true, decide_eq_true_eq, not_or, Int.not_lt] at this
    exact this
  refine ⟨xs.map Int.toNat, ?_, fun x h1 => ?_⟩
  · rw [List.map_map]
    conv => lhs; rw [← List.map_id xs]
    apply List.map_congr_left
    intro x h1
    have := hx x h1
    show x = ((x.toNat : Nat) : Int)
    omega
  · obtain ⟨y, h2, rfl⟩ := List.mem_map.1 h1
    have := hx y h2
    omega
theorem natL_cells (ls : List Nat) : (ls.map (fun (x : Nat) => (x : Int))).map (ivI .i64) = ls.map (iv .i64) := by rw [List.map_map]; rfl
theorem natL_any (ls : List Nat) (h : ∀ x ∈ ls, x ≤ 15) : (ls.map (fun (x : Nat) => (x : Int))).any badL = false := by
  rw [List.any_eq_false]
  intro x h1
  obtain ⟨y, h2, rfl⟩ := List.mem_map.1 h1
  have := h y h2
  simp only [badL, Bool.or_eq_true, decide_eq_true_eq, not_or, Int.not_lt]
  omega
theorem clos_v {x : Int} (hK : K (.sc (.bool (badL x))) h) : VC Try.prog GL (n + 1) 33 [(.sc (.int .i64 (x)))] h K := by
  refine VC_go Try.func33 rfl (by decide) Try.ntmps33 Try.results33 rfl fun Q hq hn => ?_
  unfold badL at hK
  repeat (first | (simp (maxSteps := 1000000) only [↓reduceIte, go_sem]) | (simp (maxSteps := 1000000) (disch := first | omega | assumption) only [BB]) | with_reducible refine vawp_draw mixed (by kernel_rfl) ?_ | with_reducible first | refine lwV_out ?_ | refine lwV_out0 ?_ | refine lkC_out ?_ | refine And.intro (by omega) ?_ | fail)
  first | (with_reducible refine Gst.now ?_) | (with_reducible refine lkC_out ?_; simp only [vawp_skip_eq, thenV_normal]; with_reducible refine Gst.now ?_) | (with_reducible refine lkC_out ?_)
  try simp only [vawp_seq_eq, vawp_block_eq]
  with_reducible refine vawp_regq ?_
  simp only [List.toList_toArray]
  repeat (first | (apply vopsQ_pk; (case hd => rfl); (case h1 => simp (disch := first | omega | assumption) only [↓reduceIte, go_sem]); (case h2 => simp (disch := first | omega | assumption) only [↓reduceIte, go_sem]); (case h3 => simp (disch := first | omega | assumption) only [↓reduceIte, go_sem]); (case hb => simp (disch := first | omega | assumption) only [↓reduceIte, go_sem]); (try simp (disch := first | omega | assumption) only [↓reduceIte, go_sem])) | (apply vopsQ_n; (case hd => rfl); (case hq => (intro K' hk'; repeat (first | simp (maxSteps := 4000000) (disch := first | omega | assumption) only [↓reduceIte, go_sem] | with_reducible refine Gst.now ?_ | with_reducible refine vawp_draw mixed (by kernel_rfl) ?_ | with_reducible first | refine lwV_out ?_ | refine lwV_out0 ?_ | refine lkC_out ?_ | refine And.intro (by omega) ?_ | fail); exact hk'))) | (apply vopsQ_gt; (case hd => rfl); (case h1 => rfl); (case h2 => rfl); (case h3 => simp (disch := first | omega | assumption) only [↓reduceIte, go_sem]); (case hq => (intro K' hk'; repeat (first | simp (maxSteps := 4000000) (disch := first | omega | assumption) only [↓reduceIte, go_sem] | with_reducible refine Gst.now ?_ | with_reducible refine vawp_draw mixed (by kernel_rfl) ?_ | with_reducible first | refine lwV_out ?_ | refine lwV_out0 ?_ | refine lkC_out ?_ | refine And.intro (by omega) ?_ | fail); exact hk'))) | (apply vopsQ_gf'; (case hd => rfl); (case h1 => rfl); (case h2 => rfl); (case h3 => simp (disch := first | omega | assumption) only [↓reduceIte, go_sem])) | (apply vopsQ_gj; (case hd => rfl); (case h1 => rfl); (case h2 => rfl); (case h3 => simp (disch := first | omega | assumption) only [↓reduceIte, go_sem])) | (apply vopsQ_gpk; (case hd => rfl); (case h1 => rfl); (case h2 => rfl); (case h3 => simp (disch := first | omega | assumption) only [↓reduceIte, go_sem]); (case k1 => simp (disch := first | omega | assumption) only [↓reduceIte, go_sem]); (case k2 => simp (disch := first | omega | assumption) only [↓reduceIte, go_sem]); (case k3 => simp (disch := first | omega | assumption) only [↓reduceIte, go_sem]); (case hb => (intro hc; (try simp (disch := first | omega | assumption) only [↓reduceIte, go_sem] at hc); simp (disch := first | omega | assumption) only [↓reduceIte, go_sem, hc])); (try simp (disch := first | omega | assumption) only [↓reduceIte, go_sem])) | (apply vopsQ_gu; (case hd => rfl); (case h1 => rfl); (case h2 => rfl); (case h3 => simp (disch := first | omega | assumption) only [↓reduceIte, go_sem]); (case hq => (intro hc K' hk'; (try simp (disch := first | omega | assumption) only [↓reduceIte, go_sem] at hc); repeat (first | simp (maxSteps := 4000000) (disch := first | omega | assumption) only [↓reduceIte, go_sem, hc] | with_reducible refine Gst.now ?_ | with_reducible refine vawp_draw mixed (by kernel_rfl) ?_ | with_reducible first | refine lwV_out ?_ | refine lwV_out0 ?_ | refine lkC_out ?_ | refine And.intro (by omega) ?_ | fail); exact hk')); (try simp (disch := first | omega | assumption) only [↓reduceIte, go_sem])) | fail)
  simp only [vopsQ_nil]
  repeat (first | (simp (maxSteps := 1000000) only [↓reduceIte, go_sem]) | (simp (maxSteps := 1000000) (disch := first | omega | assumption) only [BB]) | with_reducible refine Gst.now ?_ | with_reducible refine vawp_draw mixed (by kernel_rfl) ?_ | with_reducible first | refine lwV_out ?_ | refine lwV_out0 ?_ | refine lkC_out ?_ | refine And.intro (by omega) ?_ | fail)
  refine hq _ _ ?_
  repeat (first | (simp (maxSteps := 1000000) only [↓reduceIte, go_sem]) | (simp (maxSteps := 1000000) (disch := first | omega | assumption) only [BB]) | with_reducible refine Gst.now ?_ | with_reducible refine vawp_draw mixed (by kernel_rfl) ?_ | with_reducible first | refine lwV_out ?_ | refine lwV_out0 ?_ | refine lkC_out ?_ | refine And.intro (by omega) ?_ | fail)
  exact .now hK
theorem getDI {xs : List Int} {i : Nat} (hi : i < xs.length) : xs.getD i 0 = xs[i] := by rw [List.getD_eq_getElem?_getD, List.getElem?_eq_getElem hi]; rfl
theorem index_v {nl : Bool} {l : Nat} {xs : List Int} (hl : l = xs.length) (hb : xs.length ≤ 140737488355328) (hK : ∀ i : Int, (0 ≤ i ↔ xs.any badL = true) → K (.sc (.int .i64 (i))) h) : VC Try.prog GL (n + 2) 39 [.isl nl l (xs.map (ivI .i64)), .fn (.func 33) [] []] h K := by
  refine VC_go Try.func39 rfl (by decide) Try.ntmps39 Try.results39 rfl fun Q hq hn => ?_
  subst hl
  repeat (first | (simp (maxSteps := 1000000) only [↓reduceIte, go_sem]) | (simp (maxSteps := 1000000) (disch := first | omega | assumption) only [BB]) | with_reducible refine Gst.now ?_ | with_reducible refine vawp_draw mixed (by kernel_rfl) ?_ | with_reducible first | refine lwV_out ?_ | refine lwV_out0 ?_ | refine lkC_out ?_ | refine And.intro (by omega) ?_ | fail)
  refine vawp_loop (k := xs.length) (fun c ρ h1 => ∃ i : Nat, c + i = xs.length ∧ ρ 0 = .isl nl xs.length (xs.map (ivI .i64)) ∧ ρ 1 = .fn (.func 33) [] [] ∧ ρ 7 = (.sc (.int .i64 ((xs.length : Nat)))) ∧ ρ 8 = (.sc (.int .i64 ((i : Nat)))) ∧ (xs.take i).any badL = false ∧ h1 = h) ?_ ?_
  · refine ⟨0, by omega, ?_⟩
    repeat (first | (simp (maxSteps := 1000000) only [↓reduceIte, go_sem]) | (simp (maxSteps := 1000000) (disch := first | omega | assumption) only [BB]) | with_reducible refine Gst.now ?_ | with_reducible refine vawp_draw mixed (by kernel_rfl) ?_ | with_reducible first | refine lwV_out ?_ | refine lwV_out0 ?_ | refine lkC_out ?_ | refine And.intro (by omega) ?_ | fail)
    rfl
  · rintro c ρ h1 ⟨i, hc, g0, g1, g7, g8, hs, rfl⟩
    by_cases hi : i < xs.length
    · have e1 := eq_true hi
      repeat (first | (simp (maxSteps := 1000000) only [↓reduceIte, go_sem, g0, g1, g7, g8, e1]) | (simp (maxSteps := 1000000) (disch := first | omega | assumption) only [BB, g0, g1, g7, g8, e1]) | with_reducible refine Gst.now ?_ | with_reducible refine vawp_draw mixed (by kernel_rfl) ?_ | with_reducible first | refine lwV_out ?_ | refine lwV_out0 ?_ | refine lkC_out ?_ | refine And.intro (by omega) ?_ | fail)
      with_reducible refine call_ok ?_
      refine clos_v (x := xs.getD i 0) ?_
      have htk : (xs.take (i + 1)).any badL = badL (xs.getD i 0) := by
        rw [List.take_succ_eq_append_getElem hi, List.any_append, hs, Bool.false_or, getDI hi]; simp
      cases hv : badL (xs.getD i 0) with
      | true =>
        repeat (first | (simp (maxSteps := 1000000) only [↓reduceIte, go_sem, g0, g1, g7, g8, e1]) | (simp (maxSteps := 1000000) (disch := first | omega | assumption) only [BB, g0, g1, g7, g8, e1]) | with_reducible refine Gst.now ?_ | with_reducible refine vawp_draw mixed (by kernel_rfl) ?_ | with_reducible first | refine lwV_out ?_ | refine lwV_out0 ?_ | refine lkC_out ?_ | refine And.intro (by omega) ?_ | fail)
        refine hq _ _ ?_
        repeat (first | (simp (maxSteps := 1000000) only [↓reduceIte, go_sem, g0, g1, g7, g8, e1]) | (simp (maxSteps := 1000000) (disch := first | omega | assumption) only [BB, g0, g1, g7, g8, e1]) | with_reducible refine Gst.now ?_ | with_reducible refine vawp_draw mixed (by kernel_rfl) ?_ | with_reducible first | refine lwV_out ?_ | refine lwV_out0 ?_ | refine lkC_out ?_ | refine And.intro (by omega) ?_ | fail)
        refine .now (hK (i : Nat) ⟨fun _ => ?_, fun _ => by omega⟩)
        rw [List.any_eq_true]
        exact ⟨xs.getD i 0, by rw [getDI hi]; exact List.getElem_mem hi, hv⟩
      | false =>
        rw [hv] at htk
        repeat (first | (simp (maxSteps := 1000000) only [↓reduceIte, go_sem, g0, g1, g7, g8, e1]) | (simp (maxSteps := 1000000) (disch := first | omega | assumption) only [BB, g0, g1, g7, g8, e1]) | with_reducible refine Gst.now ?_ | with_reducible refine vawp_draw mixed (by kernel_rfl) ?_ | with_reducible first | refine lwV_out ?_ | refine lwV_out0 ?_ | refine lkC_out ?_ | refine And.intro (by omega) ?_ | fail)
        exact ⟨c - 1, by omega, i + 1, by omega, rfl, htk⟩
    · have e1 := eq_false hi
      have hii : i = xs.length := by omega
      rw [hii, List.take_length] at hs
      repeat (first | (simp (maxSteps := 1000000) only [↓reduceIte, go_sem, g0, g1, g7, g8, e1]) | (simp (maxSteps := 1000000) (disch := first | omega | assumption) only [BB, g0, g1, g7, g8, e1]) | with_reducible refine Gst.now ?_ | with_reducible refine vawp_draw mixed (by kernel_rfl) ?_ | with_reducible first | refine lwV_out ?_ | refine lwV_out0 ?_ | refine lkC_out ?_ | refine And.intro (by omega) ?_ | fail)
      refine hq _ _ ?_
      repeat (first | (simp (maxSteps := 1000000) only [↓reduceIte, go_sem, g0, g1, g7, g8, e1]) | (simp (maxSteps := 1000000) (disch := first | omega | assumption) only [BB, g0, g1, g7, g8, e1]) | with_reducible refine Gst.now ?_ | with_reducible refine vawp_draw mixed (by kernel_rfl) ?_ | with_reducible first | refine lwV_out ?_ | refine lwV_out0 ?_ | refine lkC_out ?_ | refine And.intro (by omega) ?_ | fail)
      exact .now (hK (-1) ⟨fun h => absurd h (by decide), fun h => by rw [hs] at h; cases h⟩)
theorem contains_v {nl : Bool} {l : Nat} {xs : List Int} (hl : l = xs.length) (hb : xs.length ≤ 140737488355328) (hK : K (.sc (.bool (xs.any badL))) h) : VC Try.prog GL (n + 3) 32 [.isl nl l (xs.map (ivI .i64)), .fn (.func 33) [] []] h K := by
  refine VC_go Try.func32 rfl (by decide) Try.ntmps32 Try.results32 rfl fun Q hq hn => ?_
  repeat (first | (simp (maxSteps := 1000000) only [↓reduceIte, go_sem]) | (simp (maxSteps := 1000000) (disch := first | omega | assumption) only [BB]) | with_reducible refine Gst.now ?_ | with_reducible refine vawp_draw mixed (by kernel_rfl) ?_ | with_reducible first | refine lwV_out ?_ | refine lwV_out0 ?_ | refine lkC_out ?_ | refine And.intro (by omega) ?_ | fail)
  refine call_ok (index_v hl hb fun i hi => ?_)
  have e1 : decide (0 ≤ i) = xs.any badL := by
    cases hv : xs.any badL with
    | true => exact decide_eq_true (hi.2 hv)
    | false => exact decide_eq_false fun hh => by rw [hi.1 hh] at hv; cases hv
  repeat (first | (simp (maxSteps := 1000000) only [↓reduceIte, go_sem, e1]) | (simp (maxSteps := 1000000) (disch := first | omega | assumption) only [BB, e1]) | with_reducible refine Gst.now ?_ | with_reducible refine vawp_draw mixed (by kernel_rfl) ?_ | with_reducible first | refine lwV_out ?_ | refine lwV_out0 ?_ | refine lkC_out ?_ | refine And.intro (by omega) ?_ | fail)
  refine hq _ _ ?_
  repeat (first | (simp (maxSteps := 1000000) only [↓reduceIte, go_sem, e1]) | (simp (maxSteps := 1000000) (disch := first | omega | assumption) only [BB, e1]) | with_reducible refine Gst.now ?_ | with_reducible refine vawp_draw mixed (by kernel_rfl) ?_ | with_reducible first | refine lwV_out ?_ | refine lwV_out0 ?_ | refine lkC_out ?_ | refine And.intro (by omega) ?_ | fail)
  exact .now hK
theorem right_v {nl : Bool} {l : Nat} {xs : List Int} (hl : l = xs.length) (hb : xs.length ≤ 140737488355328) (hK : K (.sc (.bool (!xs.any badL && decide (xs.length ≤ 288)))) h) : VC Try.prog GL (n + 1) 23 [.isl nl l (xs.map (ivI .i64))] h K := by
  refine VC_go Try.func23 rfl (by decide) Try.ntmps23 Try.results23 rfl fun Q hq hn => ?_
  subst hl
  repeat (first | (simp (maxSteps := 1000000) only [↓reduceIte, go_sem]) | (simp (maxSteps := 1000000) (disch := first | omega | assumption) only [BB]) | with_reducible refine Gst.now ?_ | with_reducible refine vawp_draw mixed (by kernel_rfl) ?_ | with_reducible first | refine lwV_out ?_ | refine lwV_out0 ?_ | refine lkC_out ?_ | refine And.intro (by omega) ?_ | fail)
  refine vawp_loop (k := xs.length) (fun c ρ h1 => ∃ i : Nat, c + i = xs.length ∧ ρ 0 = .isl nl xs.length (xs.map (ivI .i64)) ∧ ρ 3 = (.sc (.int .i64 ((i : Nat)))) ∧ (xs.take i).any badL = false ∧ h1 = h) ?_ ?_
  · refine ⟨0, by omega, ?_⟩
    repeat (first | (simp (maxSteps := 1000000) only [↓reduceIte, go_sem]) | (simp (maxSteps := 1000000) (disch := first | omega | assumption) only [BB]) | with_reducible refine Gst.now ?_ | with_reducible refine vawp_draw mixed (by kernel_rfl) ?_ | with_reducible first | refine lwV_out ?_ | refine lwV_out0 ?_ | refine lkC_out ?_ | refine And.intro (by omega) ?_ | fail)
    rfl
  · rintro c ρ h1 ⟨i, hc, g0, g3, hs, rfl⟩
    by_cases hi : i < xs.length
    · have e1 := eq_true hi
      have htk : (xs.take (i + 1)).any badL = badL (xs.getD i 0) := by
        rw [List.take_succ_eq_append_getElem hi, List.any_append, hs, Bool.false_or, getDI hi]; simp
      have hmem : badL (xs.getD i 0) = true → xs.any badL = true := fun hv => List.any_eq_true.2 ⟨xs.getD i 0, by rw [getDI hi]; exact List.getElem_mem hi, hv⟩
      repeat (first | (simp (maxSteps := 1000000) only [↓reduceIte, go_sem, g0, g3, e1]) | (simp (maxSteps := 1000000) (disch := first | omega | assumption) only [BB, g0, g3, e1]) | with_reducible refine vawp_draw mixed (by kernel_rfl) ?_ | with_reducible first | refine lwV_out ?_ | refine lwV_out0 ?_ | refine lkC_out ?_ | refine And.intro (by omega) ?_ | fail)
      first | (with_reducible refine Gst.now ?_) | (with_reducible refine lkC_out ?_; simp only [vawp_skip_eq, thenV_normal]; with_reducible refine Gst.now ?_) | (with_reducible refine lkC_out ?_)
      repeat (first | (simp (maxSteps := 1000000) only [↓reduceIte, go_sem, g0, g3, e1]) | (simp (maxSteps := 1000000) (disch := first | omega | assumption) only [BB, g0, g3, e1]) | with_reducible refine vawp_draw mixed (by kernel_rfl) ?_ | with_reducible first | refine lwV_out ?_ | refine lwV_out0 ?_ | refine lkC_out ?_ | refine And.intro (by omega) ?_ | fail)
      first | (with_reducible refine Gst.now ?_) | (with_reducible refine lkC_out ?_; simp only [vawp_skip_eq, thenV_normal]; with_reducible refine Gst.now ?_) | (with_reducible refine lkC_out ?_)
      try simp only [vawp_seq_eq, vawp_block_eq]
      with_reducible refine vawp_regq ?_
      simp only [List.toList_toArray]
      repeat (first | (apply vopsQ_pk; (case hd => rfl); (case h1 => simp (disch := first | omega | assumption) only [↓reduceIte, go_sem, g0, g3, e1]); (case h2 => simp (disch := first | omega | assumption) only [↓reduceIte, go_sem, g0, g3, e1]); (case h3 => simp (disch := first | omega | assumption) only [↓reduceIte, go_sem, g0, g3, e1]); (case hb => simp (disch := first | omega | assumption) only [↓reduceIte, go_sem, g0, g3, e1]); (try simp (disch := first | omega | assumption) only [↓reduceIte, go_sem, g0, g3, e1])) | (apply vopsQ_n; (case hd => rfl); (case hq => (intro K' hk'; repeat (first | simp (maxSteps := 4000000) (disch := first | omega | assumption) only [↓reduceIte, go_sem, g0, g3, e1] | with_reducible refine Gst.now ?_ | with_reducible refine vawp_draw mixed (by kernel_rfl) ?_ | with_reducible first | refine lwV_out ?_ | refine lwV_out0 ?_ | refine lkC_out ?_ | refine And.intro (by omega) ?_ | fail); exact hk'))) | (apply vopsQ_gt; (case hd => rfl); (case h1 => rfl); (case h2 => rfl); (case h3 => simp (disch := first | omega | assumption) only [↓reduceIte, go_sem]); (case hq => (intro K' hk'; repeat (first | simp (maxSteps := 4000000) (disch := first | omega | assumption) only [↓reduceIte, go_sem, g0, g3, e1] | with_reducible refine Gst.now ?_ | with_reducible refine vawp_draw mixed (by kernel_rfl) ?_ | with_reducible first | refine lwV_out ?_ | refine lwV_out0 ?_ | refine lkC_out ?_ | refine And.intro (by omega) ?_ | fail); exact hk'))) | (apply vopsQ_gf'; (case hd => rfl); (case h1 => rfl); (case h2 => rfl); (case h3 => simp (disch := first | omega | assumption) only [↓reduceIte, go_sem, g0, g3, e1])) | (apply vopsQ_gj; (case hd => rfl); (case h1 => rfl); (case h2 => rfl); (case h3 => simp (disch := first | omega | assumption) only [↓reduceIte, go_sem, g0, g3, e1])) | (apply vopsQ_gpk; (case hd => rfl); (case h1 => rfl); (case h2 => rfl); (case h3 => simp (disch := first | omega | assumption) only [↓reduceIte, go_sem, g0, g3, e1]); (case k1 => simp (disch := first | omega | assumption) only [↓reduceIte, go_sem, g0, g3, e1]); (case k2 => simp (disch := first | omega | assumption) only [↓reduceIte, go_sem, g0, g3, e1]); (case k3 => simp (disch := first | omega | assumption) only [↓reduceIte, go_sem, g0, g3, e1]); (case hb => (intro hc; (try simp (disch := first | omega | assumption) only [↓reduceIte, go_sem, g0, g3, e1] at hc); simp (disch := first | omega | assumption) only [↓reduceIte, go_sem, hc, g0, g3, e1])); (try simp (disch := first | omega | assumption) only [↓reduceIte, go_sem, g0, g3, e1])) | (apply vopsQ_gu; (case hd => rfl); (case h1 => rfl); (case h2 => rfl); (case h3 => simp (disch := first | omega | assumption) only [↓reduceIte, go_sem, g0, g3, e1]); (case hq => (intro hc K' hk'; (try simp (disch := first | omega | assumption) only [↓reduceIte, go_sem, g0, g3, e1] at hc); repeat (first | simp (maxSteps := 4000000) (disch := first | omega | assumption) only [↓reduceIte, go_sem, hc, g0, g3, e1] | with_reducible refine Gst.now ?_ | with_reducible refine vawp_draw mixed (by kernel_rfl) ?_ | with_reducible first | refine lwV_out ?_ | refine lwV_out0 ?_ | refine lkC_out ?_ | refine And.intro (by omega) ?_ | fail); exact hk')); (try simp (disch := first | omega | assumption) only [↓reduceIte, go_sem, g0, g3, e1])) | fail)
      simp only [vopsQ_nil]
      repeat (first | (simp (maxSteps := 1000000) only [↓reduceIte, go_sem, g0, g3, e1]) | (simp (maxSteps := 1000000) (disch := first | omega | assumption) only [BB, g0, g3, e1]) | with_reducible refine Gst.now ?_ | with_reducible refine vawp_draw mixed (by kernel_rfl) ?_ | with_reducible first | refine lwV_out ?_ | refine lwV_out0 ?_ | refine lkC_out ?_ | refine And.intro (by omega) ?_ | fail)
      split
      · rename_i hv
        have hv2 : badL (xs.getD i 0) = true := hv
        rw [hmem hv2] at hK
        repeat (first | (simp (maxSteps := 1000000) only [↓reduceIte, go_sem, g0, g3, e1]) | (simp (maxSteps := 1000000) (disch := first | omega | assumption) only [BB, g0, g3, e1]) | with_reducible refine Gst.now ?_ | with_reducible refine vawp_draw mixed (by kernel_rfl) ?_ | with_reducible first | refine lwV_out ?_ | refine lwV_out0 ?_ | refine lkC_out ?_ | refine And.intro (by omega) ?_ | fail)
        refine hq _ _ ?_
        repeat (first | (simp (maxSteps := 1000000) only [↓reduceIte, go_sem, g0, g3, e1]) | (simp (maxSteps := 1000000) (disch := first | omega | assumption) only [BB, g0, g3, e1]) | with_reducible refine Gst.now ?_ | with_reducible refine vawp_draw mixed (by kernel_rfl) ?_ | with_reducible first | refine lwV_out ?_ | refine lwV_out0 ?_ | refine lkC_out ?_ | refine And.intro (by omega) ?_ | fail)
        exact .now hK
      · rename_i hv
        have hv2 : badL (xs.getD i 0) = false := by unfold badL; simpa using hv
        rw [hv2] at htk
        repeat (first | (simp (maxSteps := 1000000) only [↓reduceIte, go_sem, g0, g3, e1]) | (simp (maxSteps := 1000000) (disch := first | omega | assumption) only [BB, g0, g3, e1]) | with_reducible refine Gst.now ?_ | with_reducible refine vawp_draw mixed (by kernel_rfl) ?_ | with_reducible first | refine lwV_out ?_ | refine lwV_out0 ?_ | refine lkC_out ?_ | refine And.intro (by omega) ?_ | fail)
        exact ⟨c - 1, by omega, i + 1, by omega, rfl, htk⟩
    · have e1 := eq_false hi
      have hii : i = xs.length := by omega
      rw [hii, List.take_length] at hs
      rw [hs] at hK
      repeat (first | (simp (maxSteps := 1000000) only [↓reduceIte, go_sem, g0, g3, e1]) | (simp (maxSteps := 1000000) (disch := first | omega | assumption) only [BB, g0, g3, e1]) | with_reducible refine Gst.now ?_ | with_reducible refine vawp_draw mixed (by kernel_rfl) ?_ | with_reducible first | refine lwV_out ?_ | refine lwV_out0 ?_ | refine lkC_out ?_ | refine And.intro (by omega) ?_ | fail)
      refine hq _ _ ?_
      repeat (first | (simp (maxSteps := 1000000) only [↓reduceIte, go_sem, g0, g3, e1]) | (simp (maxSteps := 1000000) (disch := first | omega | assumption) only [BB, g0, g3, e1]) | with_reducible refine Gst.now ?_ | with_reducible refine vawp_draw mixed (by kernel_rfl) ?_ | with_reducible first | refine lwV_out ?_ | refine lwV_out0 ?_ | refine lkC_out ?_ | refine And.intro (by omega) ?_ | fail)
      exact .now hK
def kL (l : Nat) : Nat := if 0 < l then 32768 / 2 ^ l else 0
def sumL : List Nat → Nat
  | [] => 0
  | l :: ls => kL l + sumL ls
theorem sumL_app (xs ys : List Nat) : sumL (xs ++ ys) = sumL xs + sumL ys := by
  induction xs with
  | nil => simp [sumL]
  | cons x xs ih => simp [sumL, ih, Nat.add_assoc]
theorem kL_le (l : Nat) : kL l ≤ 32768 := by unfold kL; split <;> simp [Nat.div_le_self]
theorem sumL_le (ls : List Nat) : sumL ls ≤ ls.length * 32768 := by
  induction ls with
  | nil => simp [sumL]
  | cons x xs ih => have := kL_le x; simp only [sumL, List.length_cons]; omega
theorem take_snocN {xs : List Nat} {i : Nat} (hi : i < xs.length) : xs.take (i + 1) = xs.take i ++ [xs.getD i 0] := by
  rw [List.take_succ_eq_append_getElem hi, List.getD_eq_getElem?_getD, List.getElem?_eq_getElem hi]; rfl
theorem sumL_take {ls : List Nat} {i : Nat} (hi : i < ls.length) : sumL (ls.take (i + 1)) = sumL (ls.take i) + kL (ls.getD i 0) := by
  rw [take_snocN hi, sumL_app]; simp [sumL]
theorem getD_leN {ls : List Nat} {i m : Nat} (h : ∀ x ∈ ls, x ≤ m) : ls.getD i 0 ≤ m := by
  rw [List.getD_eq_getElem?_getD]
  cases hx : ls[i]? with
  | none => simp
  | some x => exact h x (List.mem_of_getElem? hx)
theorem wrap_sum {S P : Nat} (h : S + 32768 / P < 9223372036854775808) : IntKind.i64.wrap ((S : Int) + 32768 / (P : Int)) = ((S + 32768 / P : Nat) : Int) := by
  have e : (32768 : Int) / (P : Int) = ((32768 / P : Nat) : Int) := (Int.natCast_ediv 32768 P).symm
  rw [e, IntKind.wrap_i64]
  generalize 32768 / P = q at *
  omega
theorem sum_v {nl : Bool} {l : Nat} {ls : List Nat} (hl : l = ls.length) (hb : ls.length ≤ 1000) (h15 : ∀ x ∈ ls, x ≤ 15) (hK : K (.sc (.int .i64 ((sumL ls : Nat)))) h) : VC Try.prog GL (n + 1) 24 [.isl nl l (ls.map (iv .i64))] h K := by
  refine VC_go Try.func24 rfl (by decide) Try.ntmps24 Try.results24 rfl fun Q hq hn => ?_
  subst hl
  repeat (first | (simp (maxSteps := 1000000) only [↓reduceIte, go_sem]) | (simp (maxSteps := 1000000) (disch := first | omega | assumption) only [BB]) | with_reducible refine Gst.now ?_ | with_reducible refine vawp_draw mixed (by kernel_rfl) ?_ | with_reducible first | refine lwV_out ?_ | refine lwV_out0 ?_ | refine lkC_out ?_ | refine And.intro (by omega) ?_ | fail)
  refine vawp_loop (k := ls.length) (fun c ρ h1 => ∃ i : Nat, c + i = ls.length ∧ ρ 0 = .isl nl ls.length (ls.map (iv .i64)) ∧ ρ 4 = (.sc (.int .i64 ((i : Nat)))) ∧ ρ 3 = (.sc (.int .i64 ((sumL (ls.take i) : Nat)))) ∧ h1 = h) ?_ ?_
  · refine ⟨0, by omega, ?_⟩
    repeat (first | (simp (maxSteps := 1000000) only [↓reduceIte, go_sem]) | (simp (maxSteps := 1000000) (disch := first | omega | assumption) only [BB]) | with_reducible refine Gst.now ?_ | with_reducible refine vawp_draw mixed (by kernel_rfl) ?_ | with_reducible first | refine lwV_out ?_ | refine lwV_out0 ?_ | refine lkC_out ?_ | refine And.intro (by omega) ?_ | fail)
    rfl
  · rintro c ρ h1 ⟨i, hc, g0, g4, g3, rfl⟩
    by_cases hi : i < ls.length
    · have e1 := eq_true hi
      have htk := sumL_take hi
      have hle := sumL_le (ls.take i)
      rw [List.length_take] at hle
      have hx15 := getD_leN (i := i) h15
      generalize sumL (ls.take i) = S at *
      repeat (first | (simp (maxSteps := 1000000) only [↓reduceIte, go_sem, g0, g4, g3, e1]) | (simp (maxSteps := 1000000) (disch := first | omega | assumption) only [BB, g0, g4, g3, e1]) | with_reducible refine Gst.now ?_ | with_reducible refine vawp_draw mixed (by kernel_rfl) ?_ | with_reducible first | refine lwV_out ?_ | refine lwV_out0 ?_ | refine lkC_out ?_ | refine And.intro (by omega) ?_ | fail)
      split
      · rename_i h0
        have hk0 : kL (ls.getD i 0) = 32768 / 2 ^ ls.getD i 0 := if_pos h0
        have hkl := kL_le (ls.getD i 0)
        rw [hk0] at htk hkl
        repeat (first | (simp (maxSteps := 1000000) only [↓reduceIte, go_sem, g0, g4, g3, e1]) | (simp (maxSteps := 1000000) (disch := first | omega | assumption) only [BB, g0, g4, g3, e1]) | with_reducible refine Gst.now ?_ | with_reducible refine vawp_draw mixed (by kernel_rfl) ?_ | with_reducible first | refine lwV_out ?_ | refine lwV_out0 ?_ | refine lkC_out ?_ | refine And.intro (by omega) ?_ | fail)
        refine ⟨c - 1, by omega, i + 1, by omega, rfl, ?_⟩
        rw [htk]
        exact wrap_sum (by omega)
      · rename_i h0
        have hk0 : kL (ls.getD i 0) = 0 := if_neg h0
        rw [hk0] at htk
        repeat (first | (simp (maxSteps := 1000000) only [↓reduceIte, go_sem, g0, g4, g3, e1]) | (simp (maxSteps := 1000000) (disch := first | omega | assumption) only [BB, g0, g4, g3, e1]) | with_reducible refine Gst.now ?_ | with_reducible refine vawp_draw mixed (by kernel_rfl) ?_ | with_reducible first | refine lwV_out ?_ | refine lwV_out0 ?_ | refine lkC_out ?_ | refine And.intro (by omega) ?_ | fail)
        exact ⟨c - 1, by omega, i + 1, by omega, rfl, by rw [htk]; simp⟩
    · have e1 := eq_false hi
      have hii : i = ls.length := by omega
      rw [hii, List.take_length] at g3
      repeat (first | (simp (maxSteps := 1000000) only [↓reduceIte, go_sem, g0, g4, g3, e1]) | (simp (maxSteps := 1000000) (disch := first | omega | assumption) only [BB, g0, g4, g3, e1]) | with_reducible refine Gst.now ?_ | with_reducible refine vawp_draw mixed (by kernel_rfl) ?_ | with_reducible first | refine lwV_out ?_ | refine lwV_out0 ?_ | refine lkC_out ?_ | refine And.intro (by omega) ?_ | fail)
      refine hq _ _ ?_
      repeat (first | (simp (maxSteps := 1000000) only [↓reduceIte, go_sem, g0, g4, g3, e1]) | (simp (maxSteps := 1000000) (disch := first | omega | assumption) only [BB, g0, g4, g3, e1]) | with_reducible refine Gst.now ?_ | with_reducible refine vawp_draw mixed (by kernel_rfl) ?_ | with_reducible first | refine lwV_out ?_ | refine lwV_out0 ?_ | refine lkC_out ?_ | refine And.intro (by omega) ?_ | fail)
      exact .now hK
theorem fit_v {nl : Bool} {l : Nat} {ls : List Nat} (hl : l = ls.length) (hb : ls.length ≤ 288) (h15 : ∀ x ∈ ls, x ≤ 15) (hK : K (.sc (.bool (decide (sumL ls ≤ 32768)))) h) : VC Try.prog GL (n + 1) 34 [.isl nl l (ls.map (iv .i64))] h K := by
  refine VC_go Try.func34 rfl (by decide) Try.ntmps34 Try.results34 rfl fun Q hq hn => ?_
  subst hl
  have e0 : (288 < ls.length) = False := eq_false (by omega)
  repeat (first | (simp (maxSteps := 1000000) only [↓reduceIte, go_sem, e0]) | (simp (maxSteps := 1000000) (disch := first | omega | assumption) only [BB, e0]) | with_reducible refine Gst.now ?_ | with_reducible refine vawp_draw mixed (by kernel_rfl) ?_ | with_reducible first | refine lwV_out ?_ | refine lwV_out0 ?_ | refine lkC_out ?_ | refine And.intro (by omega) ?_ | fail)
  refine vawp_loop (k := ls.length) (fun c ρ h1 => ∃ i : Nat, c + i = ls.length ∧ ρ 9 = .isl nl ls.length (ls.map (iv .i64)) ∧ ρ 10 = (.sc (.int .i64 ((ls.length : Nat)))) ∧ ρ 11 = (.sc (.int .i64 ((i : Nat)))) ∧ ρ 3 = (.sc (.int .i64 ((sumL (ls.take i) : Nat)))) ∧ h1 = h) ?_ ?_
  · refine ⟨0, by omega, ?_⟩
    repeat (first | (simp (maxSteps := 1000000) only [↓reduceIte, go_sem, e0]) | (simp (maxSteps := 1000000) (disch := first | omega | assumption) only [BB, e0]) | with_reducible refine Gst.now ?_ | with_reducible refine vawp_draw mixed (by kernel_rfl) ?_ | with_reducible first | refine lwV_out ?_ | refine lwV_out0 ?_ | refine lkC_out ?_ | refine And.intro (by omega) ?_ | fail)
    rfl
  · rintro c ρ h1 ⟨i, hc, g9, g10, g11, g3, rfl⟩
    by_cases hi : i < ls.length
    · have e1 := eq_true hi
      have htk := sumL_take hi
      have hle := sumL_le (ls.take i)
      rw [List.length_take] at hle
      have hx15 := getD_leN (i := i) h15
      have e2 : (15 < ls.getD i 0) = False := eq_false (by omega)
      have e3 : (ls.getD i 0 < 0) = False := eq_false (by omega)
      generalize sumL (ls.take i) = S at *
      repeat (first | (simp (maxSteps := 1000000) only [↓reduceIte, go_sem, e0, g9, g10, g11, g3, e1, e2, e3]) | (simp (maxSteps := 1000000) (disch := first | omega | assumption) only [BB, e0, g9, g10, g11, g3, e1, e2, e3]) | with_reducible refine Gst.now ?_ | with_reducible refine vawp_draw mixed (by kernel_rfl) ?_ | with_reducible first | refine lwV_out ?_ | refine lwV_out0 ?_ | refine lkC_out ?_ | refine And.intro (by omega) ?_ | fail)
      split
      · rename_i h0
        have hk0 : kL (ls.getD i 0) = 32768 / 2 ^ ls.getD i 0 := if_pos h0
        have hkl := kL_le (ls.getD i 0)
        rw [hk0] at htk hkl
        repeat (first | (simp (maxSteps := 1000000) only [↓reduceIte, go_sem, e0, g9, g10, g11, g3, e1, e2, e3]) | (simp (maxSteps := 1000000) (disch := first | omega | assumption) only [BB, e0, g9, g10, g11, g3, e1, e2, e3]) | with_reducible refine Gst.now ?_ | with_reducible refine vawp_draw mixed (by kernel_rfl) ?_ | with_reducible first | refine lwV_out ?_ | refine lwV_out0 ?_ | refine lkC_out ?_ | refine And.intro (by omega) ?_ | fail)
        refine ⟨c - 1, by omega, i + 1, by omega, rfl, ?_⟩
        rw [htk]
        exact wrap_sum (by omega)
      · rename_i h0
        have hk0 : kL (ls.getD i 0) = 0 := if_neg h0
        rw [hk0] at htk
        repeat (first | (simp (maxSteps := 1000000) only [↓reduceIte, go_sem, e0, g9, g10, g11, g3, e1, e2, e3]) | (simp (maxSteps := 1000000) (disch := first | omega | assumption) only [BB, e0, g9, g10, g11, g3, e1, e2, e3]) | with_reducible refine Gst.now ?_ | with_reducible refine vawp_draw mixed (by kernel_rfl) ?_ | with_reducible first | refine lwV_out ?_ | refine lwV_out0 ?_ | refine lkC_out ?_ | refine And.intro (by omega) ?_ | fail)
        exact ⟨c - 1, by omega, i + 1, by omega, rfl, by rw [htk]; simp⟩
    · have e1 := eq_false hi
      have hii : i = ls.length := by omega
      rw [hii, List.take_length] at g3
      repeat (first | (simp (maxSteps := 1000000) only [↓reduceIte, go_sem, e0, g9, g10, g11, g3, e1]) | (simp (maxSteps := 1000000) (disch := first | omega | assumption) only [BB, e0, g9, g10, g11, g3, e1]) | with_reducible refine Gst.now ?_ | with_reducible refine vawp_draw mixed (by kernel_rfl) ?_ | with_reducible first | refine lwV_out ?_ | refine lwV_out0 ?_ | refine lkC_out ?_ | refine And.intro (by omega) ?_ | fail)
      refine hq _ _ ?_
      repeat (first | (simp (maxSteps := 1000000) only [↓reduceIte, go_sem, e0, g9, g10, g11, g3, e1]) | (simp (maxSteps := 1000000) (disch := first | omega | assumption) only [BB, e0, g9, g10, g11, g3, e1]) | with_reducible refine Gst.now ?_ | with_reducible refine vawp_draw mixed (by kernel_rfl) ?_ | with_reducible first | refine lwV_out ?_ | refine lwV_out0 ?_ | refine lkC_out ?_ | refine And.intro (by omega) ?_ | fail)
      exact .now hK
/-- How many there are of each length. -/
def cntL (ls : List Nat) : List Nat := (List.range 16).map fun i => if i = 0 then 0 else ls.count i
theorem cntL_get (ls : List Nat) (i : Nat) (hi : i < 16) : (cntL ls).getD i 0 = if i = 0 then 0 else ls.count i := by
  unfold cntL
  rw [List.getD_eq_getElem?_getD, List.getElem?_map, List.getElem?_range hi]; rfl
theorem cntL_len (ls : List Nat) : (cntL ls).length = 16 := by simp [cntL]
theorem count_take {ls : List Nat} {i j : Nat} (hi : i < ls.length) : (ls.take (i + 1)).count j = (ls.take i).count j + if ls.getD i 0 = j then 1 else 0 := by
  rw [take_snocN hi, List.count_append, List.count_singleton]
  simp only [beq_iff_eq]
theorem set_getD {xs : List Nat} {i k v : Nat} (hi : i < xs.length) : (xs.set i v).getD k 0 = if k = i then v else xs.getD k 0 := by
  rw [List.getD_eq_getElem?_getD, List.getElem?_set]
  by_cases h : i = k
  · subst h; rw [if_pos rfl, if_pos rfl, if_pos hi]; rfl
  · rw [if_neg h, if_neg (Ne.symm h), ← List.getD_eq_getElem?_getD]
theorem ext_getD {xs ys : List Nat} (hl : xs.length = ys.length) (h : ∀ i, i < xs.length → xs.getD i 0 = ys.getD i 0) : xs = ys := by
  apply List.ext_getElem hl
  intro i h1 h2
  have := h i h1
  rw [List.getD_eq_getElem?_getD, List.getD_eq_getElem?_getD, List.getElem?_eq_getElem h1, List.getElem?_eq_getElem h2] at this
  exact this
theorem setV_full {cs vs : List AV} (h : cs.length = vs.length) : setV cs 0 vs = vs := by
  unfold setV
  rw [List.take_zero, List.nil_append, Nat.zero_add, ← h, List.drop_length, List.append_nil]
theorem counts_v {nl : Bool} {l : Nat} {ls : List Nat} (hl : l = ls.length) (hb : ls.length ≤ 288) (h15 : ∀ x ∈ ls, x ≤ 15) (hK : K (.agg ((cntL ls).map (iv .i64))) h) : VC Try.prog GL (n + 1) 35 [.isl nl l (ls.map (iv .i64))] h K := by
  refine VC_go Try.func35 rfl (by decide) Try.ntmps35 Try.results35 rfl fun Q hq hn => ?_
  subst hl
  repeat (first | (simp (maxSteps := 1000000) only [↓reduceIte, go_sem]) | (simp (maxSteps := 1000000) (disch := first | omega | assumption) only [BB]) | with_reducible refine Gst.now ?_ | with_reducible refine vawp_draw mixed (by kernel_rfl) ?_ | with_reducible first | refine lwV_out ?_ | refine lwV_out0 ?_ | refine lkC_out ?_ | refine And.intro (by omega) ?_ | fail)
  intro j2 hj2
  repeat (first | (simp (maxSteps := 1000000) only [↓reduceIte, go_sem]) | (simp (maxSteps := 1000000) (disch := first | omega | assumption) only [BB]) | with_reducible refine Gst.now ?_ | with_reducible refine vawp_draw mixed (by kernel_rfl) ?_ | with_reducible first | refine lwV_out ?_ | refine lwV_out0 ?_ | refine lkC_out ?_ | refine And.intro (by omega) ?_ | fail)
  intro j3 hj3
  try simp (disch := first | omega | assumption) only [go_sem, hset_none, hdel_none] at hj3
  try simp (disch := first | omega | assumption) only [hset_none, hdel_none] at hj3
  repeat (first | (simp (maxSteps := 1000000) only [↓reduceIte, go_sem]) | (simp (maxSteps := 1000000) (disch := first | omega | assumption) only [BB]) | with_reducible refine Gst.now ?_ | with_reducible refine vawp_draw mixed (by kernel_rfl) ?_ | with_reducible first | refine lwV_out ?_ | refine lwV_out0 ?_ | refine lkC_out ?_ | refine And.intro (by omega) ?_ | fail)
  refine vawp_loop (k := ls.length) (fun c ρ h1 => ∃ (i : Nat) (C : List Nat), c + i = ls.length ∧ ρ 2 = .op j2 0 ∧ ρ 3 = .op j3 0 ∧ ρ 6 = .isl nl ls.length (ls.map (iv .i64)) ∧ ρ 7 = (.sc (.int .i64 ((ls.length : Nat)))) ∧ ρ 8 = (.sc (.int .i64 ((i : Nat)))) ∧ C.length = 16 ∧ (∀ m, m < 16 → C.getD m 0 = (ls.take i).count m) ∧ h1 = hset (hset h j2 (.cells 73 false ((List.replicate 16 0).map (iv .i64)))) j3 (.cells 73 false (C.map (iv .i64)))) ?_ ?_
  · refine ⟨0, List.replicate 16 0, by omega, ?_⟩
    repeat (first | (simp (maxSteps := 1000000) only [↓reduceIte, go_sem]) | (simp (maxSteps := 1000000) (disch := first | omega | assumption) only [BB]) | with_reducible refine Gst.now ?_ | with_reducible refine vawp_draw mixed (by kernel_rfl) ?_ | with_reducible first | refine lwV_out ?_ | refine lwV_out0 ?_ | refine lkC_out ?_ | refine And.intro (by omega) ?_ | fail)
    refine ⟨by simp, fun m hm => ?_, rfl⟩
    rw [List.getD_eq_getElem?_getD, List.getElem?_replicate, if_pos hm]; rfl
  · rintro c ρ h1 ⟨i, C, hc, g2, g3, g6, g7, g8, hC, hCm, rfl⟩
    by_cases hi : i < ls.length
    · have e1 := eq_true hi
      have hx15 := getD_leN (i := i) h15
      have e2 : (ls.getD i 0 < 16) = True := eq_true (by omega)
      have e3 := hC
      have hcx : C.getD (ls.getD i 0) 0 ≤ 288 := by
        rw [hCm _ (by omega)]
        exact Nat.le_trans List.count_le_length (by rw [List.length_take]; omega)
      repeat (first | (simp (maxSteps := 1000000) only [↓reduceIte, go_sem, g2, g3, g6, g7, g8, e1, e2, e3]) | (simp (maxSteps := 1000000) (disch := first | omega | assumption) only [BB, g2, g3, g6, g7, g8, e1, e2, e3]) | with_reducible refine Gst.now ?_ | with_reducible refine vawp_draw mixed (by kernel_rfl) ?_ | with_reducible first | refine lwV_out ?_ | refine lwV_out0 ?_ | refine lkC_out ?_ | refine And.intro (by omega) ?_ | fail)
      refine ⟨c - 1, by omega, i + 1, C.set (ls.getD i 0) (C.getD (ls.getD i 0) 0 + 1), by omega, rfl, by rw [List.length_set]; exact hC, fun m hm => ?_, ?_⟩
      · rw [set_getD (by omega), count_take hi]
        by_cases hmi : m = ls.getD i 0
        · rw [if_pos hmi, if_pos hmi.symm, ← hmi, hCm m hm]
        · rw [if_neg hmi, if_neg (Ne.symm hmi), hCm m hm]; rfl
      · first | rfl | (rw [← set_iv]; rfl) | (rw [← set_iv]; congr 4; rw [IntKind.wrap_i64]; omega)
    · have e1 := eq_false hi
      have hii : i = ls.length := by omega
      rw [hii, List.take_length] at hCm
      have hD : C.set 0 0 = cntL ls := ext_getD (by rw [List.length_set, cntL_len]; exact hC) fun m hm => by
        rw [List.length_set] at hm
        rw [set_getD (by omega), cntL_get ls m (by omega)]
        by_cases h0 : m = 0
        · rw [if_pos h0, if_pos h0]
        · rw [if_neg h0, if_neg h0, hCm m (by omega)]
      have e3 := hC
      have e4 : (C.map (iv .i64)).set 0 (.sc (.int .i64 (0))) = (cntL ls).map (iv .i64) := by rw [← hD, List.map_set]; rfl
      have e5 : ((cntL ls).map (iv .i64)).take 16 = (cntL ls).map (iv .i64) := List.take_of_length_le (by rw [List.length_map, cntL_len]; omega)
      have e6 : ((cntL ls).map (iv .i64)).length = 16 := by rw [List.length_map, cntL_len]
      have e7 : ((cntL ls).map (iv .i64)).all AV.one = true := by rw [List.all_map]; exact List.all_eq_true.2 fun _ _ => rfl
      have e8 : setV ((List.replicate 16 0).map (iv .i64)) 0 ((cntL ls).map (iv .i64)) = (cntL ls).map (iv .i64) := setV_full (by rw [e6]; simp)
      repeat (first | (simp (maxSteps := 1000000) only [↓reduceIte, go_sem, g2, g3, g6, g7, g8, e1, e3, e4, e5, e6, e7, e8]) | (simp (maxSteps := 1000000) (disch := first | omega | assumption) only [BB, g2, g3, g6, g7, g8, e1, e3, e4, e5, e6, e7, e8]) | with_reducible refine Gst.now ?_ | with_reducible refine vawp_draw mixed (by kernel_rfl) ?_ | with_reducible first | refine lwV_out ?_ | refine lwV_out0 ?_ | refine lkC_out ?_ | refine And.intro (by omega) ?_ | fail)
      refine ⟨by simp, .now ?_⟩
      repeat (first | (simp (maxSteps := 1000000) only [↓reduceIte, go_sem, g2, g3, g6, g7, g8, e1, e3, e4, e5, e6, e7, e8]) | (simp (maxSteps := 1000000) (disch := first | omega | assumption) only [BB, g2, g3, g6, g7, g8, e1, e3, e4, e5, e6, e7, e8]) | with_reducible refine Gst.now ?_ | with_reducible refine vawp_draw mixed (by kernel_rfl) ?_ | with_reducible first | refine lwV_out ?_ | refine lwV_out0 ?_ | refine lkC_out ?_ | refine And.intro (by omega) ?_ | fail)
      refine hq _ _ ?_
      repeat (first | (simp (maxSteps := 1000000) only [↓reduceIte, go_sem, g2, g3, g6, g7, g8, e1, e3, e4, e5, e6, e7, e8]) | (simp (maxSteps := 1000000) (disch := first | omega | assumption) only [BB, g2, g3, g6, g7, g8, e1, e3, e4, e5, e6, e7, e8]) | with_reducible refine Gst.now ?_ | with_reducible refine vawp_draw mixed (by kernel_rfl) ?_ | with_reducible first | refine lwV_out ?_ | refine lwV_out0 ?_ | refine lkC_out ?_ | refine And.intro (by omega) ?_ | fail)
      refine .drop j2 (.drop j3 ?_)
      refine FrK.now (hcast (hK) ?_)
      first | rfl | (funext i; simp only [hset, hdel]; repeat' split) <;> (first | rfl | (subst_vars; simp_all [hset, hdel]; done) | (subst_vars; exfalso; simp_all [hset, hdel]; done))
end
end Go.Proofs.Ytncicgfbnjneeaa.VLen
