/- tables of slots, over the machine of values. -/
import Derived.Test.YtgdhfabiljgdpaaProg
import Derived.Test.YtgdhfabiljgdpaaAbV16
import Derived.Test.YtgdhfabiljgdpaaAbFacts
import Derived.Test.YtgdhfabiljgdpaaAbVRows
import Derived.Test.YtgdhfabiljgdpaaAbVRows2
import Derived.KernelRfl
import Derived.Laws.BitsAllLaws
set_option linter.unusedVariables false
set_option linter.unusedSimpArgs false
set_option maxRecDepth 100000
set_option maxHeartbeats 4000000
namespace Go.Proofs.Ytgdhfabiljgdpaa.VSlots
open Go.RowKit Go.Proofs.AbM Go.Proofs.Ytgdhfabiljgdpaa.Facts Go.Proofs.Ytgdhfabiljgdpaa.VRows Go.Proofs.Ytgdhfabiljgdpaa.VRows2
attribute [local go_sem] vawp_skip_eq vawp_seq_eq vawp_region_eq vawp_cond_g vawp_block_eq vawp_exit_eq vawp_ret_eq thenV_ret thenV_exit thenV_normal inBlockV_normal inBlockV_ret inBlockV_exit resKV_nil resKV_tmp resKV_cell oneV_one oneV_nil oneV_more initV_nil initV_cons updV_at evv_tmp evv_func evv_global evv_int evv_bool evv_str evv_snil evv_pnil evv_agg ofV3_int ofV3_bool ofV3_str ofV3_snil ofV3_pnil vok_tmp vok_func vok_global vok_int vok_bool vok_str vok_snil vok_pnil vok_agg cloV3_int cloV3_bool cloV3_str cloV3_snil cloV3_pnil voks_nil voks_cons scV_int scV_bool scV_str isBlV_b isBV_t isBV_f lwV_none lwV_sc lwV_agg lwV_tup lwV_isl lwV_own lwV_op lwV_ip lwV_fn lwV_junk vops_nil vops_n vops_s gsN_eq vop dstOk_some dstOk_none pkV_b blkV_set eRead_f eRead_t vLoad_op vLoad_ip vStore_op cells_sc cells_isl cells_own cells_op cells_ip cells_fn cells_agg parts_sc parts_isl parts_own parts_op parts_ip parts_fn parts_agg one_sc one_isl one_own one_op one_ip one_fn vField_op vField_ip ePart_f ePart_t vFieldV_agg vIx_isl vIx_own vIx_op vIx_ip vIxV_agg vIxV_str vLen_str vLen_isl vLen_own vLen_agg bndE_none bndE_int vSlice_isl vSlice_str vBin_add vBin_sub vBin_mul vBin_quo vBin_rem vBin_and vBin_or vBin_xor vBin_andNot vBin_eql vBin_neq vBin_lss vBin_leq vBin_gtr vBin_geq vBin_shr_i8 vBin_shl_i8 vBin_shr_i16 vBin_shl_i16 vBin_shr_i32 vBin_shl_i32 vBin_shr_i64 vBin_shl_i64 vBin_shr_u8 vBin_shl_u8 vBin_shr_u16 vBin_shl_u16 vBin_shr_u32 vBin_shl_u32 vBin_shr_u64 vBin_shl_u64 vBin_seq vBin_sne vBin_isln vBin_opn vBin_ipn ex_sc ex_sc2 ex_sc3 ex_tup calleeV wSc_pb wSc_pi wSc_not wSc_neg wSc_com wSc_min2 wSc_max2 vfold_nil vfold_one vfold_cons vfill_nil vfill_e eFill_s vBuild vBox vAlloc setV_map setV_zs setV_zn setV_s hset_hset eConv_ss vConv_e iv_eq ivI_eq ex_get ex_getI set_iv set_ivI okNil isNilV isSlV hdel_at hset_at List.map_toArray List.map_cons List.map_nil List.nil_append List.cons_append List.append_nil List.toList_toArray List.getElem?_toArray List.getElem_toArray List.getElem_cons_zero List.getElem_cons_succ List.getElem?_cons_zero List.getElem?_cons_succ List.set_cons_zero List.set_cons_succ List.set_set List.length_cons List.length_nil List.length_set List.length_map List.all_cons List.all_nil List.drop_zero List.drop_succ_cons List.take_succ_cons List.take_zero List.flatMap_cons Bool.and_eq_true true_and and_true if_true if_false ite_true ite_false forall_eq' forall_eq exists_eq_left exists_eq_left' exists_eq' Value.bool.injEq Value.int.injEq Value.string.injEq Value.pointer.injEq Option.some.injEq AV.sc.injEq AV.op.injEq AV.ip.injEq AV.own.injEq AV.agg.injEq VB.cells.injEq VB.iter.injEq Prod.mk.injEq decide_eq_true_eq decide_eq_false_iff_not Nat.reduceEqDiff Nat.reduceLT Nat.reduceLeDiff Nat.reduceSub Nat.reduceBEq reduceIte Int.reduceLE Int.reduceLT Int.reduceToNat Int.reduceNeg Int.reduceEq Int.reduceNe Int.cast_ofNat_Int Nat.reduceMul Nat.reduceAdd Nat.reduceDiv Nat.reduceMod Nat.reducePow Int.reduceSub Int.reduceAdd Int.reduceMul Int.reducePow Option.isSome_some Option.isSome_none Option.bind_some Option.map_some Option.map_none Option.toList_some Option.toList_none true_or or_true or_false false_or Bool.not_true Bool.not_false Bool.not_eq_true Bool.false_eq_true Bool.not_not false_implies true_implies implies_true Nat.zero_add Nat.add_zero Nat.mul_one Bool.not_eq_true' Bool.true_eq_false Bool.and_true Bool.true_and Bool.and_false Bool.false_and Bool.or_true Bool.true_or Bool.or_false Bool.false_or Option.isNone_some Option.isNone_none Int.reduceBEq Int.reduceBNe beq_self_eq_true bne_self_eq_false beq_iff_eq not_false_eq_true not_true_eq_false Decidable.not_not bne_iff_ne ne_eq Int.toNat_natCast gt_lt ge_le c_add c_mul c_sub c_addn c_nadd c_muln c_nmul c_subn c_nsub c_divn c_modn c_div c_mod c_tdivn c_tmodn c_tdiv c_tmod c_pow c_nn c_beq c_beqn c_bne c_bnen wr64 wr32 wru64 wru32 wru16 wru8 c_if c_if1 c_if2 c_lt c_le c_eq c_ltn c_len c_nlt c_nle c_eqn m_drop m_take Nat.add_sub_cancel_left Nat.add_sub_cancel Int.reduceTMod Int.reduceTDiv Int.reduceMod Int.reduceDiv isC_some hset_ne hdel_ne hdel_hset hdel_hset_ne blkV_nset blkV_ndel hset_hdel gV_t gV_f isGdV_b isGdV_u isBV_u isGdV_g isBV_gt isBV_gf decide_true decide_false Bool.or_eq_false_iff eq_self Nat.lt_irrefl Int.lt_irrefl Nat.le_refl Int.le_refl
attribute [local go_sem high] vops_pk vops_mv vops_as vops_smv pk_and pk_or pk_gand pk_gor pk_orn pk_gorn
attribute [local go_sem] ag3 sz3 zc3 ik3 ag4 sz4 zc4 ag5 sz5 zc5 ik5 ag9 sz9 zc9 iq9 ag22 sz22 el22 zc22 is22 ag24 sz24 el24 zc24 is24 ag25 sz25 el25 zc25 is25 ag27 sz27 zc27 bo27 ag29 sz29 zc29 ik29 ag41 sz41 zc41 eqs41 nes41 bo41 ag55 sz55 zc55 of27_0 fd27_0 of27_1 fd27_1 of41_0 fd41_0 of41_1 fd41_1 eqb neb
section
variable {n : Nat} {h : VH} {K : AV → VH → Prop}
attribute [local go_sem] rowC rowA ex_row row_len row_take row_drop Nat.sub_zero Nat.zero_le
structure SlotV where
  there : Bool
  row : RowV
deriving DecidableEq, Inhabited
def slotC (s : SlotV) : List AV := [(.sc (.bool (s.there))), rowA s.row]
attribute [local go_sem] slotC
theorem slotC_len (s : SlotV) : (slotC s).length = 2 := rfl
theorem slot_len (ss : List SlotV) : (ss.flatMap slotC).length = ss.length * 2 := flat_len slotC_len ss
theorem slot_take : ∀ (ss : List SlotV) (i : Nat), (ss.flatMap slotC).take (i * 2) = (ss.take i).flatMap slotC
  | [], i => by simp
  | s :: ss, 0 => by simp
  | s :: ss, i + 1 => by
    rw [List.flatMap_cons, List.take_succ_cons, List.flatMap_cons, show (i + 1) * 2 = i * 2 + 1 + 1 by omega]
    show _ :: _ :: _ = _
    rw [← slot_take ss i]; rfl
theorem slot_get : ∀ (ss : List SlotV) (i k : Nat), i < ss.length → k < 2 → (ss.flatMap slotC)[i * 2 + k]? = (slotC (ss.getD i default))[k]?
  | [], i, k, hi, hk => by simp at hi
  | s :: ss, 0, k, hi, hk => by
    rw [List.flatMap_cons, List.getElem?_append_left (by rw [slotC_len]; omega)]; simp
  | s :: ss, i + 1, k, hi, hk => by
    rw [List.flatMap_cons, List.getElem?_append_right (by rw [slotC_len]; omega), slotC_len, show (i + 1) * 2 + k - 2 = i * 2 + k by omega, slot_get ss i k (by simpa using hi) hk]
    simp
theorem ex_slot0 {ss : List SlotV} {i : Nat} {K : AV → Prop} : (∃ v, (ss.flatMap slotC)[i * 2]? = some v ∧ K v) = (i < ss.length ∧ K (.sc (.bool ((ss.getD i default).there)))) := by
  apply propext
  constructor
  · rintro ⟨v, h1, h2⟩
    have hi : i * 2 < ss.length * 2 := by rw [← slot_len]; exact (List.getElem?_eq_some_iff.1 h1).1
    have := slot_get ss i 0 (by omega) (by omega)
    rw [Nat.add_zero, h1] at this; cases this
    exact ⟨by omega, h2⟩
  · rintro ⟨hi, h2⟩
    exact ⟨_, slot_get ss i 0 hi (by omega), h2⟩
theorem ex_slot1 {ss : List SlotV} {i : Nat} {K : AV → Prop} : (∃ v, (ss.flatMap slotC)[i * 2 + 1]? = some v ∧ K v) = (i < ss.length ∧ K (rowA (ss.getD i default).row)) := by
  apply propext
  constructor
  · rintro ⟨v, h1, h2⟩
    have hi : i * 2 + 1 < ss.length * 2 := by rw [← slot_len]; exact (List.getElem?_eq_some_iff.1 h1).1
    have := slot_get ss i 1 (by omega) (by omega)
    rw [h1] at this; cases this
    exact ⟨by omega, h2⟩
  · rintro ⟨hi, h2⟩
    exact ⟨_, slot_get ss i 1 hi (by omega), h2⟩
theorem slot_at (ss : List SlotV) (i : Nat) (hi : i < ss.length) : ((ss.flatMap slotC).drop (i * 2)).take 2 = slotC (ss.getD i default) := flat_get slotC_len default ss i hi
attribute [local go_sem] ex_slot0 ex_slot1 slot_len slot_take
def countN (ss : List SlotV) : Nat := (ss.filter (·.there)).length
theorem countN_take {ss : List SlotV} {i : Nat} (hi : i < ss.length) : countN (ss.take (i + 1)) = countN (ss.take i) + if (ss.getD i default).there = true then 1 else 0 := by
  unfold countN
  rw [take_snocD hi, List.filter_append, List.length_append]
  congr 1
  generalize ss.getD i default = s
  cases h : s.there <;> simp [h]
theorem countN_le (ss : List SlotV) : countN ss ≤ ss.length := List.length_filter_le _ _
theorem count_v {nl : Bool} {l : Nat} {ss : List SlotV} (hl : l = ss.length) (hb : ss.length ≤ 140737488355328) (hK : K (.sc (.int .i64 ((countN ss : Nat)))) h) : VC Try.prog GL (n + 1) 12 [.isl nl l (ss.flatMap slotC)] h K := by
  refine VC_go Try.func12 rfl (by decide) Try.ntmps12 Try.results12 rfl fun Q hq hn => ?_
  subst hl
  repeat (first | (simp (maxSteps := 1000000) only [↓reduceIte, go_sem]) | (simp (maxSteps := 1000000) (disch := first | omega | assumption) only [BB]) | with_reducible refine Gst.now ?_ | with_reducible refine vawp_draw mixed (by kernel_rfl) ?_ | with_reducible first | refine lwV_out ?_ | refine lwV_out0 ?_ | refine lkC_out ?_ | refine And.intro (by omega) ?_ | fail)
  refine vawp_loop (k := ss.length) (fun k ρ h1 => ∃ i : Nat, k + i = ss.length ∧ ρ 6 = .isl nl ss.length (ss.flatMap slotC) ∧ ρ 7 = (.sc (.int .i64 (ss.length))) ∧ ρ 8 = (.sc (.int .i64 (i))) ∧ ρ 3 = (.sc (.int .i64 ((countN (ss.take i) : Nat)))) ∧ h1 = h) ?_ ?_
  · refine ⟨0, by omega, ?_⟩
    repeat (first | (simp (maxSteps := 1000000) only [↓reduceIte, go_sem]) | (simp (maxSteps := 1000000) (disch := first | omega | assumption) only [BB]) | with_reducible refine Gst.now ?_ | with_reducible refine vawp_draw mixed (by kernel_rfl) ?_ | with_reducible first | refine lwV_out ?_ | refine lwV_out0 ?_ | refine lkC_out ?_ | refine And.intro (by omega) ?_ | fail)
    rfl
  · rintro k ρ h1 ⟨i, hki, g6, g7, g8, g3, rfl⟩
    repeat (first | (simp (maxSteps := 1000000) only [↓reduceIte, go_sem, g6, g7, g8, g3]) | (simp (maxSteps := 1000000) (disch := first | omega | assumption) only [BB, g6, g7, g8, g3]) | with_reducible refine Gst.now ?_ | with_reducible refine vawp_draw mixed (by kernel_rfl) ?_ | with_reducible first | refine lwV_out ?_ | refine lwV_out0 ?_ | refine lkC_out ?_ | refine And.intro (by omega) ?_ | fail)
    split
    · have hi : i < ss.length := by omega
      have e1 := slot_at ss i hi
      have hct := countN_take hi
      have hle := countN_le (ss.take i)
      rw [List.length_take] at hle
      generalize ss.getD i default = s at *
      repeat (first | (simp (maxSteps := 1000000) only [↓reduceIte, go_sem, g6, g7, g8, g3, e1]) | (simp (maxSteps := 1000000) (disch := first | omega | assumption) only [BB, g6, g7, g8, g3, e1]) | with_reducible refine Gst.now ?_ | with_reducible refine vawp_draw mixed (by kernel_rfl) ?_ | with_reducible first | refine lwV_out ?_ | refine lwV_out0 ?_ | refine lkC_out ?_ | refine And.intro (by omega) ?_ | fail)
      intro j hj
      try simp (disch := first | omega | assumption) only [go_sem, hset_none, hdel_none] at hj
      try simp (disch := first | omega | assumption) only [hset_none, hdel_none] at hj
      repeat (first | (simp (maxSteps := 1000000) only [↓reduceIte, go_sem, g6, g7, g8, g3, e1]) | (simp (maxSteps := 1000000) (disch := first | omega | assumption) only [BB, g6, g7, g8, g3, e1]) | with_reducible refine vawp_draw mixed (by kernel_rfl) ?_ | with_reducible first | refine lwV_out ?_ | refine lwV_out0 ?_ | refine lkC_out ?_ | refine And.intro (by omega) ?_ | fail)
      refine .now ?_
      repeat (first | (simp (maxSteps := 1000000) only [↓reduceIte, go_sem, g6, g7, g8, g3, e1]) | (simp (maxSteps := 1000000) (disch := first | omega | assumption) only [BB, g6, g7, g8, g3, e1]) | with_reducible refine vawp_draw mixed (by kernel_rfl) ?_ | with_reducible first | refine lwV_out ?_ | refine lwV_out0 ?_ | refine lkC_out ?_ | refine And.intro (by omega) ?_ | fail)
      refine .drop j (.now ?_)
      by_cases hs : s.there = true
      · rw [if_pos hs] at hct
        repeat (first | (simp (maxSteps := 1000000) only [↓reduceIte, go_sem, hs, g6, g7, g8, g3, e1]) | (simp (maxSteps := 1000000) (disch := first | omega | assumption) only [BB, hs, g6, g7, g8, g3, e1]) | with_reducible refine Gst.now ?_ | with_reducible refine vawp_draw mixed (by kernel_rfl) ?_ | with_reducible first | refine lwV_out ?_ | refine lwV_out0 ?_ | refine lkC_out ?_ | refine And.intro (by omega) ?_ | fail)
        refine ⟨k - 1, by omega, i + 1, by omega, rfl, hct.symm⟩
      · rw [if_neg hs] at hct
        have e2 := eq_false hs
        repeat (first | (simp (maxSteps := 1000000) only [↓reduceIte, go_sem, g6, g7, g8, g3, e1, e2]) | (simp (maxSteps := 1000000) (disch := first | omega | assumption) only [BB, g6, g7, g8, g3, e1, e2]) | with_reducible refine Gst.now ?_ | with_reducible refine vawp_draw mixed (by kernel_rfl) ?_ | with_reducible first | refine lwV_out ?_ | refine lwV_out0 ?_ | refine lkC_out ?_ | refine And.intro (by omega) ?_ | fail)
        refine ⟨k - 1, by omega, i + 1, by omega, rfl, hct.symm⟩
    · have hi : i = ss.length := by omega
      subst hi
      rw [List.take_length] at *
      repeat (first | (simp (maxSteps := 1000000) only [↓reduceIte, go_sem, g6, g7, g8, g3]) | (simp (maxSteps := 1000000) (disch := first | omega | assumption) only [BB, g6, g7, g8, g3]) | with_reducible refine Gst.now ?_ | with_reducible refine vawp_draw mixed (by kernel_rfl) ?_ | with_reducible first | refine lwV_out ?_ | refine lwV_out0 ?_ | refine lkC_out ?_ | refine And.intro (by omega) ?_ | fail)
      refine hq _ _ ?_
      repeat (first | (simp (maxSteps := 1000000) only [↓reduceIte, go_sem, g6, g7, g8, g3]) | (simp (maxSteps := 1000000) (disch := first | omega | assumption) only [BB, g6, g7, g8, g3]) | with_reducible refine Gst.now ?_ | with_reducible refine vawp_draw mixed (by kernel_rfl) ?_ | with_reducible first | refine lwV_out ?_ | refine lwV_out0 ?_ | refine lkC_out ?_ | refine And.intro (by omega) ?_ | fail)
      exact .now hK
/-- The error's number of the first slots. -/
def rowE : List SlotV → Nat
  | [] => 0
  | s :: ss => if s.there = false then 52 else if s.row.bs.length = 0 then 20 else rowE ss
def rowsOf (ss : List SlotV) : List RowV := ss.map (·.row)
theorem rowsOf_take {ss : List SlotV} {i : Nat} (hi : i < ss.length) : (rowsOf (ss.take (i + 1))).flatMap rowC = (rowsOf (ss.take i)).flatMap rowC ++ [rowA (ss.getD i default).row] := by
  unfold rowsOf
  rw [take_snocD hi, List.map_append, List.flatMap_append]; rfl
theorem rowsOf_len (ss : List SlotV) : (rowsOf ss).length = ss.length := List.length_map ..
theorem row_v {nl : Bool} {l : Nat} {ss : List SlotV} {m : Int} (hl : l = ss.length) (hb : ss.length ≤ 1000000000000) (hr : ∀ s ∈ ss, s.row.bs.length ≤ 140737488355328 ∧ (s.row.nl = true → s.row.bs = []))
    (hK0 : m < 1 ∨ (ss.length : Int) < m → K (.tup [.isl true 0 [], (.sc (.int .i64 (1)))]) h)
    (hK1 : 1 ≤ m → m ≤ ss.length → rowE (ss.take m.toNat) ≠ 0 → K (.tup [.isl true 0 [], (.sc (.int .i64 ((rowE (ss.take m.toNat) : Nat))))]) h)
    (hK2 : 1 ≤ m → m ≤ ss.length → rowE (ss.take m.toNat) = 0 → K (.tup [.isl false m.toNat ((rowsOf (ss.take m.toNat)).flatMap rowC), (.sc (.int .i64 (0)))]) h) : VC Try.prog GL (n + 2) 9 [.isl nl l (ss.flatMap slotC), (.sc (.int .i64 (m)))] h K := by
  refine VC_go Try.func9 rfl (by decide) Try.ntmps9 Try.results9 rfl fun Q hq hn => ?_
  subst hl
  repeat (first | (simp (maxSteps := 1000000) only [↓reduceIte, go_sem]) | (simp (maxSteps := 1000000) (disch := first | omega | assumption) only [BB]) | with_reducible refine vawp_draw mixed (by kernel_rfl) ?_ | with_reducible first | refine lwV_out ?_ | refine lwV_out0 ?_ | refine lkC_out ?_ | refine And.intro (by omega) ?_ | fail)
  refine .now ?_
  by_cases m0 : m < 1
  · have e1 := decide_eq_true m0
    try simp only [vawp_seq_eq, vawp_block_eq]
    with_reducible refine vawp_regq ?_
    simp only [List.toList_toArray]
    repeat (first | (apply vopsQ_pk; (case hd => rfl); (case h1 => simp (disch := first | omega | assumption) only [↓reduceIte, go_sem, e1]); (case h2 => simp (disch := first | omega | assumption) only [↓reduceIte, go_sem, e1]); (case h3 => simp (disch := first | omega | assumption) only [↓reduceIte, go_sem, e1]); (case hb => simp (disch := first | omega | assumption) only [↓reduceIte, go_sem, e1]); (try simp (disch := first | omega | assumption) only [↓reduceIte, go_sem, e1])) | (apply vopsQ_n; (case hd => rfl); (case hq => (intro K' hk'; repeat (first | simp (maxSteps := 4000000) (disch := first | omega | assumption) only [↓reduceIte, go_sem, e1] | with_reducible refine Gst.now ?_ | with_reducible refine vawp_draw mixed (by kernel_rfl) ?_ | with_reducible first | refine lwV_out ?_ | refine lwV_out0 ?_ | refine lkC_out ?_ | refine And.intro (by omega) ?_ | fail); exact hk'))) | (apply vopsQ_gt; (case hd => rfl); (case h1 => rfl); (case h2 => rfl); (case h3 => simp (disch := first | omega | assumption) only [↓reduceIte, go_sem]); (case hq => (intro K' hk'; repeat (first | simp (maxSteps := 4000000) (disch := first | omega | assumption) only [↓reduceIte, go_sem, e1] | with_reducible refine Gst.now ?_ | with_reducible refine vawp_draw mixed (by kernel_rfl) ?_ | with_reducible first | refine lwV_out ?_ | refine lwV_out0 ?_ | refine lkC_out ?_ | refine And.intro (by omega) ?_ | fail); exact hk'))) | (apply vopsQ_gf'; (case hd => rfl); (case h1 => rfl); (case h2 => rfl); (case h3 => simp (disch := first | omega | assumption) only [↓reduceIte, go_sem, e1])) | (apply vopsQ_gj; (case hd => rfl); (case h1 => rfl); (case h2 => rfl); (case h3 => simp (disch := first | omega | assumption) only [↓reduceIte, go_sem, e1])) | (apply vopsQ_gpk; (case hd => rfl); (case h1 => rfl); (case h2 => rfl); (case h3 => simp (disch := first | omega | assumption) only [↓reduceIte, go_sem, e1]); (case k1 => simp (disch := first | omega | assumption) only [↓reduceIte, go_sem, e1]); (case k2 => simp (disch := first | omega | assumption) only [↓reduceIte, go_sem, e1]); (case k3 => simp (disch := first | omega | assumption) only [↓reduceIte, go_sem, e1]); (case hb => (intro hc; (try simp (disch := first | omega | assumption) only [↓reduceIte, go_sem, e1] at hc); simp (disch := first | omega | assumption) only [↓reduceIte, go_sem, hc, e1])); (try simp (disch := first | omega | assumption) only [↓reduceIte, go_sem, e1])) | (apply vopsQ_gu; (case hd => rfl); (case h1 => rfl); (case h2 => rfl); (case h3 => simp (disch := first | omega | assumption) only [↓reduceIte, go_sem, e1]); (case hq => (intro hc K' hk'; (try simp (disch := first | omega | assumption) only [↓reduceIte, go_sem, e1] at hc); repeat (first | simp (maxSteps := 4000000) (disch := first | omega | assumption) only [↓reduceIte, go_sem, hc, e1] | with_reducible refine Gst.now ?_ | with_reducible refine vawp_draw mixed (by kernel_rfl) ?_ | with_reducible first | refine lwV_out ?_ | refine lwV_out0 ?_ | refine lkC_out ?_ | refine And.intro (by omega) ?_ | fail); exact hk')); (try simp (disch := first | omega | assumption) only [↓reduceIte, go_sem, e1])) | fail)
    simp only [vopsQ_nil]
    repeat (first | (simp (maxSteps := 1000000) only [↓reduceIte, go_sem, e1]) | (simp (maxSteps := 1000000) (disch := first | omega | assumption) only [BB, e1]) | with_reducible refine Gst.now ?_ | with_reducible refine vawp_draw mixed (by kernel_rfl) ?_ | with_reducible first | refine lwV_out ?_ | refine lwV_out0 ?_ | refine lkC_out ?_ | refine And.intro (by omega) ?_ | fail)
    refine hq _ _ ?_
    repeat (first | (simp (maxSteps := 1000000) only [↓reduceIte, go_sem, e1]) | (simp (maxSteps := 1000000) (disch := first | omega | assumption) only [BB, e1]) | with_reducible refine Gst.now ?_ | with_reducible refine vawp_draw mixed (by kernel_rfl) ?_ | with_reducible first | refine lwV_out ?_ | refine lwV_out0 ?_ | refine lkC_out ?_ | refine And.intro (by omega) ?_ | fail)
    exact .now (hK0 (by omega))
  obtain ⟨m, rfl⟩ := Int.eq_ofNat_of_zero_le (by omega : 0 ≤ m)
  simp only [Int.toNat_natCast, Int.ofNat_eq_natCast] at *
  have e1 : decide (m < 1) = false := decide_eq_false (by omega)
  by_cases m1 : ss.length < m
  · have e2 := decide_eq_true m1
    try simp only [vawp_seq_eq, vawp_block_eq]
    with_reducible refine vawp_regq ?_
    simp only [List.toList_toArray]
    repeat (first | (apply vopsQ_pk; (case hd => rfl); (case h1 => simp (disch := first | omega | assumption) only [↓reduceIte, go_sem, e1, e2]); (case h2 => simp (disch := first | omega | assumption) only [↓reduceIte, go_sem, e1, e2]); (case h3 => simp (disch := first | omega | assumption) only [↓reduceIte, go_sem, e1, e2]); (case hb => simp (disch := first | omega | assumption) only [↓reduceIte, go_sem, e1, e2]); (try simp (disch := first | omega | assumption) only [↓reduceIte, go_sem, e1, e2])) | (apply vopsQ_n; (case hd => rfl); (case hq => (intro K' hk'; repeat (first | simp (maxSteps := 4000000) (disch := first | omega | assumption) only [↓reduceIte, go_sem, e1, e2] | with_reducible refine Gst.now ?_ | with_reducible refine vawp_draw mixed (by kernel_rfl) ?_ | with_reducible first | refine lwV_out ?_ | refine lwV_out0 ?_ | refine lkC_out ?_ | refine And.intro (by omega) ?_ | fail); exact hk'))) | (apply vopsQ_gt; (case hd => rfl); (case h1 => rfl); (case h2 => rfl); (case h3 => simp (disch := first | omega | assumption) only [↓reduceIte, go_sem]); (case hq => (intro K' hk'; repeat (first | simp (maxSteps := 4000000) (disch := first | omega | assumption) only [↓reduceIte, go_sem, e1, e2] | with_reducible refine Gst.now ?_ | with_reducible refine vawp_draw mixed (by kernel_rfl) ?_ | with_reducible first | refine lwV_out ?_ | refine lwV_out0 ?_ | refine lkC_out ?_ | refine And.intro (by omega) ?_ | fail); exact hk'))) | (apply vopsQ_gf'; (case hd => rfl); (case h1 => rfl); (case h2 => rfl); (case h3 => simp (disch := first | omega | assumption) only [↓reduceIte, go_sem, e1, e2])) | (apply vopsQ_gj; (case hd => rfl); (case h1 => rfl); (case h2 => rfl); (case h3 => simp (disch := first | omega | assumption) only [↓reduceIte, go_sem, e1, e2])) | (apply vopsQ_gpk; (case hd => rfl); (case h1 => rfl); (case h2 => rfl); (case h3 => simp (disch := first | omega | assumption) only [↓reduceIte, go_sem, e1, e2]); (case k1 => simp (disch := first | omega | assumption) only [↓reduceIte, go_sem, e1, e2]); (case k2 => simp (disch := first | omega | assumption) only [↓reduceIte, go_sem, e1, e2]); (case k3 => simp (disch := first | omega | assumption) only [↓reduceIte, go_sem, e1, e2]); (case hb => (intro hc; (try simp (disch := first | omega | assumption) only [↓reduceIte, go_sem, e1, e2] at hc); simp (disch := first | omega | assumption) only [↓reduceIte, go_sem, hc, e1, e2])); (try simp (disch := first | omega | assumption) only [↓reduceIte, go_sem, e1, e2])) | (apply vopsQ_gu; (case hd => rfl); (case h1 => rfl); (case h2 => rfl); (case h3 => simp (disch := first | omega | assumption) only [↓reduceIte, go_sem, e1, e2]); (case hq => (intro hc K' hk'; (try simp (disch := first | omega | assumption) only [↓reduceIte, go_sem, e1, e2] at hc); repeat (first | simp (maxSteps := 4000000) (disch := first | omega | assumption) only [↓reduceIte, go_sem, hc, e1, e2] | with_reducible refine Gst.now ?_ | with_reducible refine vawp_draw mixed (by kernel_rfl) ?_ | with_reducible first | refine lwV_out ?_ | refine lwV_out0 ?_ | refine lkC_out ?_ | refine And.intro (by omega) ?_ | fail); exact hk')); (try simp (disch := first | omega | assumption) only [↓reduceIte, go_sem, e1, e2])) | fail)
    simp only [vopsQ_nil]
    repeat (first | (simp (maxSteps := 1000000) only [↓reduceIte, go_sem, e1, e2]) | (simp (maxSteps := 1000000) (disch := first | omega | assumption) only [BB, e1, e2]) | with_reducible refine Gst.now ?_ | with_reducible refine vawp_draw mixed (by kernel_rfl) ?_ | with_reducible first | refine lwV_out ?_ | refine lwV_out0 ?_ | refine lkC_out ?_ | refine And.intro (by omega) ?_ | fail)
    refine hq _ _ ?_
    repeat (first | (simp (maxSteps := 1000000) only [↓reduceIte, go_sem, e1, e2]) | (simp (maxSteps := 1000000) (disch := first | omega | assumption) only [BB, e1, e2]) | with_reducible refine Gst.now ?_ | with_reducible refine vawp_draw mixed (by kernel_rfl) ?_ | with_reducible first | refine lwV_out ?_ | refine lwV_out0 ?_ | refine lkC_out ?_ | refine And.intro (by omega) ?_ | fail)
    exact .now (hK0 (by omega))
  have e2 := decide_eq_false m1
  try simp only [vawp_seq_eq, vawp_block_eq]
  with_reducible refine vawp_regq ?_
  simp only [List.toList_toArray]
  repeat (first | (apply vopsQ_pk; (case hd => rfl); (case h1 => simp (disch := first | omega | assumption) only [↓reduceIte, go_sem, e1, e2]); (case h2 => simp (disch := first | omega | assumption) only [↓reduceIte, go_sem, e1, e2]); (case h3 => simp (disch := first | omega | assumption) only [↓reduceIte, go_sem, e1, e2]); (case hb => simp (disch := first | omega | assumption) only [↓reduceIte, go_sem, e1, e2]); (try simp (disch := first | omega | assumption) only [↓reduceIte, go_sem, e1, e2])) | (apply vopsQ_n; (case hd => rfl); (case hq => (intro K' hk'; repeat (first | simp (maxSteps := 4000000) (disch := first | omega | assumption) only [↓reduceIte, go_sem, e1, e2] | with_reducible refine Gst.now ?_ | with_reducible refine vawp_draw mixed (by kernel_rfl) ?_ | with_reducible first | refine lwV_out ?_ | refine lwV_out0 ?_ | refine lkC_out ?_ | refine And.intro (by omega) ?_ | fail); exact hk'))) | (apply vopsQ_gt; (case hd => rfl); (case h1 => rfl); (case h2 => rfl); (case h3 => simp (disch := first | omega | assumption) only [↓reduceIte, go_sem]); (case hq => (intro K' hk'; repeat (first | simp (maxSteps := 4000000) (disch := first | omega | assumption) only [↓reduceIte, go_sem, e1, e2] | with_reducible refine Gst.now ?_ | with_reducible refine vawp_draw mixed (by kernel_rfl) ?_ | with_reducible first | refine lwV_out ?_ | refine lwV_out0 ?_ | refine lkC_out ?_ | refine And.intro (by omega) ?_ | fail); exact hk'))) | (apply vopsQ_gf'; (case hd => rfl); (case h1 => rfl); (case h2 => rfl); (case h3 => simp (disch := first | omega | assumption) only [↓reduceIte, go_sem, e1, e2])) | (apply vopsQ_gj; (case hd => rfl); (case h1 => rfl); (case h2 => rfl); (case h3 => simp (disch := first | omega | assumption) only [↓reduceIte, go_sem, e1, e2])) | (apply vopsQ_gpk; (case hd => rfl); (case h1 => rfl); (case h2 => rfl); (case h3 => simp (disch := first | omega | assumption) only [↓reduceIte, go_sem, e1, e2]); (case k1 => simp (disch := first | omega | assumption) only [↓reduceIte, go_sem, e1, e2]); (case k2 => simp (disch := first | omega | assumption) only [↓reduceIte, go_sem, e1, e2]); (case k3 => simp (disch := first | omega | assumption) only [↓reduceIte, go_sem, e1, e2]); (case hb => (intro hc; (try simp (disch := first | omega | assumption) only [↓reduceIte, go_sem, e1, e2] at hc); simp (disch := first | omega | assumption) only [↓reduceIte, go_sem, hc, e1, e2])); (try simp (disch := first | omega | assumption) only [↓reduceIte, go_sem, e1, e2])) | (apply vopsQ_gu; (case hd => rfl); (case h1 => rfl); (case h2 => rfl); (case h3 => simp (disch := first | omega | assumption) only [↓reduceIte, go_sem, e1, e2]); (case hq => (intro hc K' hk'; (try simp (disch := first | omega | assumption) only [↓reduceIte, go_sem, e1, e2] at hc); repeat (first | simp (maxSteps := 4000000) (disch := first | omega | assumption) only [↓reduceIte, go_sem, hc, e1, e2] | with_reducible refine Gst.now ?_ | with_reducible refine vawp_draw mixed (by kernel_rfl) ?_ | with_reducible first | refine lwV_out ?_ | refine lwV_out0 ?_ | refine lkC_out ?_ | refine And.intro (by omega) ?_ | fail); exact hk')); (try simp (disch := first | omega | assumption) only [↓reduceIte, go_sem, e1, e2])) | fail)
  simp only [vopsQ_nil]
  repeat (first | (simp (maxSteps := 1000000) only [↓reduceIte, go_sem, e1, e2]) | (simp (maxSteps := 1000000) (disch := first | omega | assumption) only [BB, e1, e2]) | with_reducible refine vawp_draw mixed (by kernel_rfl) ?_ | with_reducible first | refine lwV_out ?_ | refine lwV_out0 ?_ | refine lkC_out ?_ | refine And.intro (by omega) ?_ | fail)
  refine .now ?_
  repeat (first | (simp (maxSteps := 1000000) only [↓reduceIte, go_sem, e1, e2]) | (simp (maxSteps := 1000000) (disch := first | omega | assumption) only [BB, e1, e2]) | with_reducible refine vawp_draw mixed (by kernel_rfl) ?_ | with_reducible first | refine lwV_out ?_ | refine lwV_out0 ?_ | refine lkC_out ?_ | refine And.intro (by omega) ?_ | fail)
  refine .now ?_
  repeat (first | (simp (maxSteps := 1000000) only [↓reduceIte, go_sem, e1, e2]) | (simp (maxSteps := 1000000) (disch := first | omega | assumption) only [BB, e1, e2]) | with_reducible refine vawp_draw mixed (by kernel_rfl) ?_ | with_reducible first | refine lwV_out ?_ | refine lwV_out0 ?_ | refine lkC_out ?_ | refine And.intro (by omega) ?_ | fail)
  have hrt : ∀ s ∈ ss.take m, s.row.bs.length ≤ 140737488355328 ∧ (s.row.nl = true → s.row.bs = []) := fun s hs => hr s (List.mem_of_mem_take hs)
  have hlt : (ss.take m).length = m := by rw [List.length_take]; omega
  refine .mat 6 25 ?_ ?_
  · repeat (first | (simp (maxSteps := 1000000) only [↓reduceIte, go_sem, e1, e2]) | (simp (maxSteps := 1000000) (disch := first | omega | assumption) only [BB, e1, e2]) | with_reducible refine Gst.now ?_ | with_reducible refine vawp_draw mixed (by kernel_rfl) ?_ | with_reducible first | refine lwV_out ?_ | refine lwV_out0 ?_ | refine lkC_out ?_ | refine And.intro (by omega) ?_ | fail)
  · intro j0 hj0
    repeat (first | (simp (maxSteps := 1000000) only [↓reduceIte, go_sem, e1, e2]) | (simp (maxSteps := 1000000) (disch := first | omega | assumption) only [BB, e1, e2]) | with_reducible refine Gst.now ?_ | with_reducible refine vawp_draw mixed (by kernel_rfl) ?_ | with_reducible first | refine lwV_out ?_ | refine lwV_out0 ?_ | refine lkC_out ?_ | refine And.intro (by omega) ?_ | fail)
    generalize ss.take m = ts at *
    refine vawp_loop (k := m) (fun k ρ h1 => ∃ i : Nat, k + i = m ∧ ρ 19 = .isl nl m (ts.flatMap slotC) ∧ ρ 20 = (.sc (.int .i64 (m))) ∧ ρ 21 = (.sc (.int .i64 (i))) ∧ rowE ts = rowE (ts.drop i) ∧ ∃ j nl2, h j = none ∧ (nl2 = true → i = 0) ∧ ρ 6 = .own j 0 i ∧ h1 = hset h j (.cells 25 nl2 ((rowsOf (ts.take i)).flatMap rowC))) ?_ ?_
    · refine ⟨0, by omega, ?_⟩
      repeat (first | (simp (maxSteps := 1000000) only [↓reduceIte, go_sem, e1, e2]) | (simp (maxSteps := 1000000) (disch := first | omega | assumption) only [BB, e1, e2]) | with_reducible refine Gst.now ?_ | with_reducible refine vawp_draw mixed (by kernel_rfl) ?_ | with_reducible first | refine lwV_out ?_ | refine lwV_out0 ?_ | refine lkC_out ?_ | refine And.intro (by omega) ?_ | fail)
      exact ⟨j0, true, hj0, rfl, rfl⟩
    · rintro k ρ h1 ⟨i, hki, g19, g20, g21, hre, j, nl2, hj, hn2, g6, rfl⟩
      repeat (first | (simp (maxSteps := 1000000) only [↓reduceIte, go_sem, e1, e2, g19, g20, g21, g6]) | (simp (maxSteps := 1000000) (disch := first | omega | assumption) only [BB, e1, e2, g19, g20, g21, g6]) | with_reducible refine Gst.now ?_ | with_reducible refine vawp_draw mixed (by kernel_rfl) ?_ | with_reducible first | refine lwV_out ?_ | refine lwV_out0 ?_ | refine lkC_out ?_ | refine And.intro (by omega) ?_ | fail)
      split
      · have hi : i < ts.length := by omega
        have e3 := slot_at ts i hi
        have hrt2 := hrt _ (getD_mem hi)
        have htk := rowsOf_take hi
        rw [drop_consD hi, rowE] at hre
        generalize ts.getD i default = s at *
        repeat (first | (simp (maxSteps := 1000000) only [↓reduceIte, go_sem, e1, e2, g19, g20, g21, g6, e3]) | (simp (maxSteps := 1000000) (disch := first | omega | assumption) only [BB, e1, e2, g19, g20, g21, g6, e3]) | with_reducible refine Gst.now ?_ | with_reducible refine vawp_draw mixed (by kernel_rfl) ?_ | with_reducible first | refine lwV_out ?_ | refine lwV_out0 ?_ | refine lkC_out ?_ | refine And.intro (by omega) ?_ | fail)
        intro q hq2
        try simp (disch := first | omega | assumption) only [go_sem, hset_none, hdel_none] at hq2
        try simp (disch := first | omega | assumption) only [hset_none, hdel_none] at hq2
        cases hs : s.there with
        | false =>
          rw [if_pos hs] at hre
          repeat (first | (simp (maxSteps := 1000000) only [↓reduceIte, go_sem, hs, e1, e2, g19, g20, g21, g6, e3]) | (simp (maxSteps := 1000000) (disch := first | omega | assumption) only [BB, hs, e1, e2, g19, g20, g21, g6, e3]) | with_reducible refine Gst.now ?_ | with_reducible refine vawp_draw mixed (by kernel_rfl) ?_ | with_reducible first | refine lwV_out ?_ | refine lwV_out0 ?_ | refine lkC_out ?_ | refine And.intro (by omega) ?_ | fail)
          refine hq _ _ ?_
          repeat (first | (simp (maxSteps := 1000000) only [↓reduceIte, go_sem, e1, e2, g19, g20, g21, g6, e3]) | (simp (maxSteps := 1000000) (disch := first | omega | assumption) only [BB, e1, e2, g19, g20, g21, g6, e3]) | with_reducible refine Gst.now ?_ | with_reducible refine vawp_draw mixed (by kernel_rfl) ?_ | with_reducible first | refine lwV_out ?_ | refine lwV_out0 ?_ | refine lkC_out ?_ | refine And.intro (by omega) ?_ | fail)
          refine .drop q (.drop j ?_)
          have hk := hK1 (by omega) (by omega) (by rw [hre]; decide)
          rw [hre] at hk
          refine FrK.now (hcast (hk) ?_)
          first | rfl | (funext i; simp only [hset, hdel]; repeat' split) <;> (first | rfl | (subst_vars; simp_all [hset, hdel]; done) | (subst_vars; exfalso; simp_all [hset, hdel]; done))
        | true =>
          rw [if_neg (by rw [hs]; decide)] at hre
          by_cases h0 : s.row.bs.length = 0
          · rw [if_pos h0] at hre
            have e4 := eq_true h0
            repeat (first | (simp (maxSteps := 1000000) only [↓reduceIte, go_sem, hs, e1, e2, g19, g20, g21, g6, e3, e4]) | (simp (maxSteps := 1000000) (disch := first | omega | assumption) only [BB, hs, e1, e2, g19, g20, g21, g6, e3, e4]) | with_reducible refine Gst.now ?_ | with_reducible refine vawp_draw mixed (by kernel_rfl) ?_ | with_reducible first | refine lwV_out ?_ | refine lwV_out0 ?_ | refine lkC_out ?_ | refine And.intro (by omega) ?_ | fail)
            refine hq _ _ ?_
            repeat (first | (simp (maxSteps := 1000000) only [↓reduceIte, go_sem, e1, e2, g19, g20, g21, g6, e3, e4]) | (simp (maxSteps := 1000000) (disch := first | omega | assumption) only [BB, e1, e2, g19, g20, g21, g6, e3, e4]) | with_reducible refine Gst.now ?_ | with_reducible refine vawp_draw mixed (by kernel_rfl) ?_ | with_reducible first | refine lwV_out ?_ | refine lwV_out0 ?_ | refine lkC_out ?_ | refine And.intro (by omega) ?_ | fail)
            refine .drop q (.drop j ?_)
            have hk := hK1 (by omega) (by omega) (by rw [hre]; decide)
            rw [hre] at hk
            refine FrK.now (hcast (hk) ?_)
            first | rfl | (funext i; simp only [hset, hdel]; repeat' split) <;> (first | rfl | (subst_vars; simp_all [hset, hdel]; done) | (subst_vars; exfalso; simp_all [hset, hdel]; done))
          · rw [if_neg h0] at hre
            have e4 := eq_false h0
            repeat (first | (simp (maxSteps := 1000000) only [↓reduceIte, go_sem, hs, e1, e2, g19, g20, g21, g6, e3, e4]) | (simp (maxSteps := 1000000) (disch := first | omega | assumption) only [BB, hs, e1, e2, g19, g20, g21, g6, e3, e4]) | with_reducible refine Gst.now ?_ | with_reducible refine vawp_draw mixed (by kernel_rfl) ?_ | with_reducible first | refine lwV_out ?_ | refine lwV_out0 ?_ | refine lkC_out ?_ | refine And.intro (by omega) ?_ | fail)
            with_reducible refine call_ok ?_
            refine clone_v rfl hrt2.2 hrt2.1 ?_
            repeat (first | (simp (maxSteps := 1000000) only [↓reduceIte, go_sem, e1, e2, g19, g20, g21, g6, e3, e4]) | (simp (maxSteps := 1000000) (disch := first | omega | assumption) only [BB, e1, e2, g19, g20, g21, g6, e3, e4]) | with_reducible refine Gst.now ?_ | with_reducible refine vawp_draw mixed (by kernel_rfl) ?_ | with_reducible first | refine lwV_out ?_ | refine lwV_out0 ?_ | refine lkC_out ?_ | refine And.intro (by omega) ?_ | fail)
            refine vBuildS_i bs24 ?_ ?_ ?_ ?_ ?_
            rfl
            rfl
            rfl
            rfl
            repeat (first | (simp (maxSteps := 1000000) only [↓reduceIte, go_sem]) | (simp (maxSteps := 1000000) (disch := first | omega | assumption) only [BB]) | with_reducible refine Gst.now ?_ | with_reducible refine vawp_draw mixed (by kernel_rfl) ?_ | with_reducible first | refine lwV_out ?_ | refine lwV_out0 ?_ | refine lkC_out ?_ | refine And.intro (by omega) ?_ | fail)
            have hll : ((rowsOf (ts.take i)).flatMap rowC).length = i := by rw [row_len, rowsOf_len, List.length_take]; omega
            generalize (rowsOf (ts.take i)).flatMap rowC = cs at *
            apply vApp_own_isl ap24 (by simp only [go_sem])
            case hv => first | (simp [hll]; done) | (simp [hll]; omega) | rfl | assumption
            case hj => repeat (first | exact hset_at _ _ _ | assumption | refine (hset_ne _ _ (by first | omega | assumption)).trans ?_ | refine (hdel_ne _ (by first | omega | assumption)).trans ?_ | fail)
            case hl => first | (simp [hll]; done) | (simp [hll]; omega) | rfl | assumption
            case h1 => first | omega | (simp [hll]; omega) | (simp [hll]; done)
            case h2 => first | omega | (simp [hll]; omega) | (simp [hll]; done)
            intro j' hj'
            try simp (disch := first | omega | assumption) only [go_sem, hset_none, hdel_none] at hj'
            try simp (disch := first | omega | assumption) only [hset_none, hdel_none] at hj'
            repeat (first | (simp (maxSteps := 1000000) only [↓reduceIte, go_sem, e1, e2, g19, g20, g21, g6, e3, e4]) | (simp (maxSteps := 1000000) (disch := first | omega | assumption) only [BB, e1, e2, g19, g20, g21, g6, e3, e4]) | with_reducible refine vawp_draw mixed (by kernel_rfl) ?_ | with_reducible first | refine lwV_out ?_ | refine lwV_out0 ?_ | refine lkC_out ?_ | refine And.intro (by omega) ?_ | fail)
            refine .drop q ?_
            repeat (first | (simp (maxSteps := 1000000) only [↓reduceIte, go_sem, e1, e2, g19, g20, g21, g6, e3, e4]) | (simp (maxSteps := 1000000) (disch := first | omega | assumption) only [BB, e1, e2, g19, g20, g21, g6, e3, e4]) | with_reducible refine Gst.now ?_ | with_reducible refine vawp_draw mixed (by kernel_rfl) ?_ | with_reducible first | refine lwV_out ?_ | refine lwV_out0 ?_ | refine lkC_out ?_ | refine And.intro (by omega) ?_ | fail)
            refine ⟨k - 1, by omega, i + 1, by omega, rfl, hre, j', false, by simp [hj'], (fun hh => nomatch hh), ⟨rfl, rfl⟩, ?_⟩
            rw [hdel_hset (by simp_all), htk]; rfl
      · have hi : i = m := by omega
        subst hi
        rw [List.take_of_length_le (by omega)]
        rw [List.drop_of_length_le (by omega), rowE] at hre
        obtain rfl : nl2 = false := by
          cases nl2 with
          | true => have := hn2 rfl; omega
          | false => rfl
        repeat (first | (simp (maxSteps := 1000000) only [↓reduceIte, go_sem, e1, e2, g19, g20, g21, g6]) | (simp (maxSteps := 1000000) (disch := first | omega | assumption) only [BB, e1, e2, g19, g20, g21, g6]) | with_reducible refine Gst.now ?_ | with_reducible refine vawp_draw mixed (by kernel_rfl) ?_ | with_reducible first | refine lwV_out ?_ | refine lwV_out0 ?_ | refine lkC_out ?_ | refine And.intro (by omega) ?_ | fail)
        refine hq _ _ ?_
        repeat (first | (simp (maxSteps := 1000000) only [↓reduceIte, go_sem, e1, e2, g19, g20, g21, g6]) | (simp (maxSteps := 1000000) (disch := first | omega | assumption) only [BB, e1, e2, g19, g20, g21, g6]) | with_reducible refine Gst.now ?_ | with_reducible refine vawp_draw mixed (by kernel_rfl) ?_ | with_reducible first | refine lwV_out ?_ | refine lwV_out0 ?_ | refine lkC_out ?_ | refine And.intro (by omega) ?_ | fail)
        refine frk_tup1 (hset_at _ _ _) ?_
        rw [hdel_hset hj]
        exact hK2 (by omega) (by omega) hre
theorem rowR_v {nl : Bool} {l : Nat} {ss : List SlotV} {m : Int} (hl : l = ss.length) (hb : ss.length ≤ 1000000000000)
    (hK0 : m < 1 ∨ (ss.length : Int) < m → K (.tup [.isl true 0 [], (.sc (.int .i64 (1)))]) h)
    (hK1 : 1 ≤ m → m ≤ ss.length → rowE (ss.take m.toNat) ≠ 0 → K (.tup [.isl true 0 [], (.sc (.int .i64 ((rowE (ss.take m.toNat) : Nat))))]) h)
    (hK2 : 1 ≤ m → m ≤ ss.length → rowE (ss.take m.toNat) = 0 → K (.tup [.isl false m.toNat ((rowsOf (ss.take m.toNat)).flatMap rowC), (.sc (.int .i64 (0)))]) h) : VC Try.prog GL (n + 2) 10 [.isl nl l (ss.flatMap slotC), (.sc (.int .i64 (m)))] h K := by
  refine VC_go Try.func10 rfl (by decide) Try.ntmps10 Try.results10 rfl fun Q hq hn => ?_
  subst hl
  repeat (first | (simp (maxSteps := 1000000) only [↓reduceIte, go_sem]) | (simp (maxSteps := 1000000) (disch := first | omega | assumption) only [BB]) | with_reducible refine vawp_draw mixed (by kernel_rfl) ?_ | with_reducible first | refine lwV_out ?_ | refine lwV_out0 ?_ | refine lkC_out ?_ | refine And.intro (by omega) ?_ | fail)
  refine .now ?_
  by_cases m0 : m < 1
  · have e1 := decide_eq_true m0
    try simp only [vawp_seq_eq, vawp_block_eq]
    with_reducible refine vawp_regq ?_
    simp only [List.toList_toArray]
    repeat (first | (apply vopsQ_pk; (case hd => rfl); (case h1 => simp (disch := first | omega | assumption) only [↓reduceIte, go_sem, e1]); (case h2 => simp (disch := first | omega | assumption) only [↓reduceIte, go_sem, e1]); (case h3 => simp (disch := first | omega | assumption) only [↓reduceIte, go_sem, e1]); (case hb => simp (disch := first | omega | assumption) only [↓reduceIte, go_sem, e1]); (try simp (disch := first | omega | assumption) only [↓reduceIte, go_sem, e1])) | (apply vopsQ_n; (case hd => rfl); (case hq => (intro K' hk'; repeat (first | simp (maxSteps := 4000000) (disch := first | omega | assumption) only [↓reduceIte, go_sem, e1] | with_reducible refine Gst.now ?_ | with_reducible refine vawp_draw mixed (by kernel_rfl) ?_ | with_reducible first | refine lwV_out ?_ | refine lwV_out0 ?_ | refine lkC_out ?_ | refine And.intro (by omega) ?_ | fail); exact hk'))) | (apply vopsQ_gt; (case hd => rfl); (case h1 => rfl); (case h2 => rfl); (case h3 => simp (disch := first | omega | assumption) only [↓reduceIte, go_sem]); (case hq => (intro K' hk'; repeat (first | simp (maxSteps := 4000000) (disch := first | omega | assumption) only [↓reduceIte, go_sem, e1] | with_reducible refine Gst.now ?_ | with_reducible refine vawp_draw mixed (by kernel_rfl) ?_ | with_reducible first | refine lwV_out ?_ | refine lwV_out0 ?_ | refine lkC_out ?_ | refine And.intro (by omega) ?_ | fail); exact hk'))) | (apply vopsQ_gf'; (case hd => rfl); (case h1 => rfl); (case h2 => rfl); (case h3 => simp (disch := first | omega | assumption) only [↓reduceIte, go_sem, e1])) | (apply vopsQ_gj; (case hd => rfl); (case h1 => rfl); (case h2 => rfl); (case h3 => simp (disch := first | omega | assumption) only [↓reduceIte, go_sem, e1])) | (apply vopsQ_gpk; (case hd => rfl); (case h1 => rfl); (case h2 => rfl); (case h3 => simp (disch := first | omega | assumption) only [↓reduceIte, go_sem, e1]); (case k1 => simp (disch := first | omega | assumption) only [↓reduceIte, go_sem, e1]); (case k2 => simp (disch := first | omega | assumption) only [↓reduceIte, go_sem, e1]); (case k3 => simp (disch := first | omega | assumption) only [↓reduceIte, go_sem, e1]); (case hb => (intro hc; (try simp (disch := first | omega | assumption) only [↓reduceIte, go_sem, e1] at hc); simp (disch := first | omega | assumption) only [↓reduceIte, go_sem, hc, e1])); (try simp (disch := first | omega | assumption) only [↓reduceIte, go_sem, e1])) | (apply vopsQ_gu; (case hd => rfl); (case h1 => rfl); (case h2 => rfl); (case h3 => simp (disch := first | omega | assumption) only [↓reduceIte, go_sem, e1]); (case hq => (intro hc K' hk'; (try simp (disch := first | omega | assumption) only [↓reduceIte, go_sem, e1] at hc); repeat (first | simp (maxSteps := 4000000) (disch := first | omega | assumption) only [↓reduceIte, go_sem, hc, e1] | with_reducible refine Gst.now ?_ | with_reducible refine vawp_draw mixed (by kernel_rfl) ?_ | with_reducible first | refine lwV_out ?_ | refine lwV_out0 ?_ | refine lkC_out ?_ | refine And.intro (by omega) ?_ | fail); exact hk')); (try simp (disch := first | omega | assumption) only [↓reduceIte, go_sem, e1])) | fail)
    simp only [vopsQ_nil]
    repeat (first | (simp (maxSteps := 1000000) only [↓reduceIte, go_sem, e1]) | (simp (maxSteps := 1000000) (disch := first | omega | assumption) only [BB, e1]) | with_reducible refine Gst.now ?_ | with_reducible refine vawp_draw mixed (by kernel_rfl) ?_ | with_reducible first | refine lwV_out ?_ | refine lwV_out0 ?_ | refine lkC_out ?_ | refine And.intro (by omega) ?_ | fail)
    refine hq _ _ ?_
    repeat (first | (simp (maxSteps := 1000000) only [↓reduceIte, go_sem, e1]) | (simp (maxSteps := 1000000) (disch := first | omega | assumption) only [BB, e1]) | with_reducible refine Gst.now ?_ | with_reducible refine vawp_draw mixed (by kernel_rfl) ?_ | with_reducible first | refine lwV_out ?_ | refine lwV_out0 ?_ | refine lkC_out ?_ | refine And.intro (by omega) ?_ | fail)
    exact .now (hK0 (by omega))
  obtain ⟨m, rfl⟩ := Int.eq_ofNat_of_zero_le (by omega : 0 ≤ m)
  simp only [Int.toNat_natCast, Int.ofNat_eq_natCast] at *
  have e1 : decide (m < 1) = false := decide_eq_false (by omega)
  by_cases m1 : ss.length < m
  · have e2 := decide_eq_true m1
    try simp only [vawp_seq_eq, vawp_block_eq]
    with_reducible refine vawp_regq ?_
    simp only [List.toList_toArray]
    repeat (first | (apply vopsQ_pk; (case hd => rfl); (case h1 => simp (disch := first | omega | assumption) only [↓reduceIte, go_sem, e1, e2]); (case h2 => simp (disch := first | omega | assumption) only [↓reduceIte, go_sem, e1, e2]); (case h3 => simp (disch := first | omega | assumption) only [↓reduceIte, go_sem, e1, e2]); (case hb => simp (disch := first | omega | assumption) only [↓reduceIte, go_sem, e1, e2]); (try simp (disch := first | omega | assumption) only [↓reduceIte, go_sem, e1, e2])) | (apply vopsQ_n; (case hd => rfl); (case hq => (intro K' hk'; repeat (first | simp (maxSteps := 4000000) (disch := first | omega | assumption) only [↓reduceIte, go_sem, e1, e2] | with_reducible refine Gst.now ?_ | with_reducible refine vawp_draw mixed (by kernel_rfl) ?_ | with_reducible first | refine lwV_out ?_ | refine lwV_out0 ?_ | refine lkC_out ?_ | refine And.intro (by omega) ?_ | fail); exact hk'))) | (apply vopsQ_gt; (case hd => rfl); (case h1 => rfl); (case h2 => rfl); (case h3 => simp (disch := first | omega | assumption) only [↓reduceIte, go_sem]); (case hq => (intro K' hk'; repeat (first | simp (maxSteps := 4000000) (disch := first | omega | assumption) only [↓reduceIte, go_sem, e1, e2] | with_reducible refine Gst.now ?_ | with_reducible refine vawp_draw mixed (by kernel_rfl) ?_ | with_reducible first | refine lwV_out ?_ | refine lwV_out0 ?_ | refine lkC_out ?_ | refine And.intro (by omega) ?_ | fail); exact hk'))) | (apply vopsQ_gf'; (case hd => rfl); (case h1 => rfl); (case h2 => rfl); (case h3 => simp (disch := first | omega | assumption) only [↓reduceIte, go_sem, e1, e2])) | (apply vopsQ_gj; (case hd => rfl); (case h1 => rfl); (case h2 => rfl); (case h3 => simp (disch := first | omega | assumption) only [↓reduceIte, go_sem, e1, e2])) | (apply vopsQ_gpk; (case hd => rfl); (case h1 => rfl); (case h2 => rfl); (case h3 => simp (disch := first | omega | assumption) only [↓reduceIte, go_sem, e1, e2]); (case k1 => simp (disch := first | omega | assumption) only [↓reduceIte, go_sem, e1, e2]); (case k2 => simp (disch := first | omega | assumption) only [↓reduceIte, go_sem, e1, e2]); (case k3 => simp (disch := first | omega | assumption) only [↓reduceIte, go_sem, e1, e2]); (case hb => (intro hc; (try simp (disch := first | omega | assumption) only [↓reduceIte, go_sem, e1, e2] at hc); simp (disch := first | omega | assumption) only [↓reduceIte, go_sem, hc, e1, e2])); (try simp (disch := first | omega | assumption) only [↓reduceIte, go_sem, e1, e2])) | (apply vopsQ_gu; (case hd => rfl); (case h1 => rfl); (case h2 => rfl); (case h3 => simp (disch := first | omega | assumption) only [↓reduceIte, go_sem, e1, e2]); (case hq => (intro hc K' hk'; (try simp (disch := first | omega | assumption) only [↓reduceIte, go_sem, e1, e2] at hc); repeat (first | simp (maxSteps := 4000000) (disch := first | omega | assumption) only [↓reduceIte, go_sem, hc, e1, e2] | with_reducible refine Gst.now ?_ | with_reducible refine vawp_draw mixed (by kernel_rfl) ?_ | with_reducible first | refine lwV_out ?_ | refine lwV_out0 ?_ | refine lkC_out ?_ | refine And.intro (by omega) ?_ | fail); exact hk')); (try simp (disch := first | omega | assumption) only [↓reduceIte, go_sem, e1, e2])) | fail)
    simp only [vopsQ_nil]
    repeat (first | (simp (maxSteps := 1000000) only [↓reduceIte, go_sem, e1, e2]) | (simp (maxSteps := 1000000) (disch := first | omega | assumption) only [BB, e1, e2]) | with_reducible refine Gst.now ?_ | with_reducible refine vawp_draw mixed (by kernel_rfl) ?_ | with_reducible first | refine lwV_out ?_ | refine lwV_out0 ?_ | refine lkC_out ?_ | refine And.intro (by omega) ?_ | fail)
    refine hq _ _ ?_
    repeat (first | (simp (maxSteps := 1000000) only [↓reduceIte, go_sem, e1, e2]) | (simp (maxSteps := 1000000) (disch := first | omega | assumption) only [BB, e1, e2]) | with_reducible refine Gst.now ?_ | with_reducible refine vawp_draw mixed (by kernel_rfl) ?_ | with_reducible first | refine lwV_out ?_ | refine lwV_out0 ?_ | refine lkC_out ?_ | refine And.intro (by omega) ?_ | fail)
    exact .now (hK0 (by omega))
  have e2 := decide_eq_false m1
  try simp only [vawp_seq_eq, vawp_block_eq]
  with_reducible refine vawp_regq ?_
  simp only [List.toList_toArray]
  repeat (first | (apply vopsQ_pk; (case hd => rfl); (case h1 => simp (disch := first | omega | assumption) only [↓reduceIte, go_sem, e1, e2]); (case h2 => simp (disch := first | omega | assumption) only [↓reduceIte, go_sem, e1, e2]); (case h3 => simp (disch := first | omega | assumption) only [↓reduceIte, go_sem, e1, e2]); (case hb => simp (disch := first | omega | assumption) only [↓reduceIte, go_sem, e1, e2]); (try simp (disch := first | omega | assumption) only [↓reduceIte, go_sem, e1, e2])) | (apply vopsQ_n; (case hd => rfl); (case hq => (intro K' hk'; repeat (first | simp (maxSteps := 4000000) (disch := first | omega | assumption) only [↓reduceIte, go_sem, e1, e2] | with_reducible refine Gst.now ?_ | with_reducible refine vawp_draw mixed (by kernel_rfl) ?_ | with_reducible first | refine lwV_out ?_ | refine lwV_out0 ?_ | refine lkC_out ?_ | refine And.intro (by omega) ?_ | fail); exact hk'))) | (apply vopsQ_gt; (case hd => rfl); (case h1 => rfl); (case h2 => rfl); (case h3 => simp (disch := first | omega | assumption) only [↓reduceIte, go_sem]); (case hq => (intro K' hk'; repeat (first | simp (maxSteps := 4000000) (disch := first | omega | assumption) only [↓reduceIte, go_sem, e1, e2] | with_reducible refine Gst.now ?_ | with_reducible refine vawp_draw mixed (by kernel_rfl) ?_ | with_reducible first | refine lwV_out ?_ | refine lwV_out0 ?_ | refine lkC_out ?_ | refine And.intro (by omega) ?_ | fail); exact hk'))) | (apply vopsQ_gf'; (case hd => rfl); (case h1 => rfl); (case h2 => rfl); (case h3 => simp (disch := first | omega | assumption) only [↓reduceIte, go_sem, e1, e2])) | (apply vopsQ_gj; (case hd => rfl); (case h1 => rfl); (case h2 => rfl); (case h3 => simp (disch := first | omega | assumption) only [↓reduceIte, go_sem, e1, e2])) | (apply vopsQ_gpk; (case hd => rfl); (case h1 => rfl); (case h2 => rfl); (case h3 => simp (disch := first | omega | assumption) only [↓reduceIte, go_sem, e1, e2]); (case k1 => simp (disch := first | omega | assumption) only [↓reduceIte, go_sem, e1, e2]); (case k2 => simp (disch := first | omega | assumption) only [↓reduceIte, go_sem, e1, e2]); (case k3 => simp (disch := first | omega | assumption) only [↓reduceIte, go_sem, e1, e2]); (case hb => (intro hc; (try simp (disch := first | omega | assumption) only [↓reduceIte, go_sem, e1, e2] at hc); simp (disch := first | omega | assumption) only [↓reduceIte, go_sem, hc, e1, e2])); (try simp (disch := first | omega | assumption) only [↓reduceIte, go_sem, e1, e2])) | (apply vopsQ_gu; (case hd => rfl); (case h1 => rfl); (case h2 => rfl); (case h3 => simp (disch := first | omega | assumption) only [↓reduceIte, go_sem, e1, e2]); (case hq => (intro hc K' hk'; (try simp (disch := first | omega | assumption) only [↓reduceIte, go_sem, e1, e2] at hc); repeat (first | simp (maxSteps := 4000000) (disch := first | omega | assumption) only [↓reduceIte, go_sem, hc, e1, e2] | with_reducible refine Gst.now ?_ | with_reducible refine vawp_draw mixed (by kernel_rfl) ?_ | with_reducible first | refine lwV_out ?_ | refine lwV_out0 ?_ | refine lkC_out ?_ | refine And.intro (by omega) ?_ | fail); exact hk')); (try simp (disch := first | omega | assumption) only [↓reduceIte, go_sem, e1, e2])) | fail)
  simp only [vopsQ_nil]
  repeat (first | (simp (maxSteps := 1000000) only [↓reduceIte, go_sem, e1, e2]) | (simp (maxSteps := 1000000) (disch := first | omega | assumption) only [BB, e1, e2]) | with_reducible refine Gst.now ?_ | with_reducible refine vawp_draw mixed (by kernel_rfl) ?_ | with_reducible first | refine lwV_out ?_ | refine lwV_out0 ?_ | refine lkC_out ?_ | refine And.intro (by omega) ?_ | fail)
  refine vBuildS_o bs24 ?_ ?_ ?_ ?_ ?_
  rfl
  rfl
  rfl
  rfl
  intro j0 hj0
  repeat (first | (simp (maxSteps := 1000000) only [↓reduceIte, go_sem, e1, e2]) | (simp (maxSteps := 1000000) (disch := first | omega | assumption) only [BB, e1, e2]) | with_reducible refine Gst.now ?_ | with_reducible refine vawp_draw mixed (by kernel_rfl) ?_ | with_reducible first | refine lwV_out ?_ | refine lwV_out0 ?_ | refine lkC_out ?_ | refine And.intro (by omega) ?_ | fail)
  have hlt : (ss.take m).length = m := by rw [List.length_take]; omega
  refine vawp_loop (k := m) (fun k ρ h1 => ∃ i : Nat, k + i = m ∧ ρ 0 = .isl nl ss.length (ss.flatMap slotC) ∧ ρ 1 = (.sc (.int .i64 (m))) ∧ ρ 7 = (.sc (.int .i64 (i))) ∧ rowE (ss.take m) = rowE ((ss.take m).drop i) ∧ ∃ j, h j = none ∧ ρ 6 = .own j 0 i ∧ h1 = hset h j (.cells 25 false ((rowsOf (ss.take i)).flatMap rowC))) ?_ ?_
  · refine ⟨0, by omega, ?_⟩
    repeat (first | (simp (maxSteps := 1000000) only [↓reduceIte, go_sem, e1, e2]) | (simp (maxSteps := 1000000) (disch := first | omega | assumption) only [BB, e1, e2]) | with_reducible refine Gst.now ?_ | with_reducible refine vawp_draw mixed (by kernel_rfl) ?_ | with_reducible first | refine lwV_out ?_ | refine lwV_out0 ?_ | refine lkC_out ?_ | refine And.intro (by omega) ?_ | fail)
    exact ⟨j0, hj0, rfl, rfl⟩
  · rintro k ρ h1 ⟨i, hki, g0, g1, g7, hre, j, hj, g6, rfl⟩
    repeat (first | (simp (maxSteps := 1000000) only [↓reduceIte, go_sem, e1, e2, g0, g1, g7, g6]) | (simp (maxSteps := 1000000) (disch := first | omega | assumption) only [BB, e1, e2, g0, g1, g7, g6]) | with_reducible refine Gst.now ?_ | with_reducible refine vawp_draw mixed (by kernel_rfl) ?_ | with_reducible first | refine lwV_out ?_ | refine lwV_out0 ?_ | refine lkC_out ?_ | refine And.intro (by omega) ?_ | fail)
    split
    · have hi : i < ss.length := by omega
      have htk := rowsOf_take hi
      rw [drop_consD (by omega), rowE, show (ss.take m).getD i default = ss.getD i default by rw [List.getD_eq_getElem?_getD, List.getD_eq_getElem?_getD, List.getElem?_take_of_lt (by omega)]] at hre
      cases hs : (ss.getD i default).there with
      | false =>
        rw [if_pos hs] at hre
        repeat (first | (simp (maxSteps := 1000000) only [↓reduceIte, go_sem, hs, e1, e2, g0, g1, g7, g6]) | (simp (maxSteps := 1000000) (disch := first | omega | assumption) only [BB, hs, e1, e2, g0, g1, g7, g6]) | with_reducible refine Gst.now ?_ | with_reducible refine vawp_draw mixed (by kernel_rfl) ?_ | with_reducible first | refine lwV_out ?_ | refine lwV_out0 ?_ | refine lkC_out ?_ | refine And.intro (by omega) ?_ | fail)
        refine hq _ _ ?_
        repeat (first | (simp (maxSteps := 1000000) only [↓reduceIte, go_sem, e1, e2, g0, g1, g7, g6]) | (simp (maxSteps := 1000000) (disch := first | omega | assumption) only [BB, e1, e2, g0, g1, g7, g6]) | with_reducible refine Gst.now ?_ | with_reducible refine vawp_draw mixed (by kernel_rfl) ?_ | with_reducible first | refine lwV_out ?_ | refine lwV_out0 ?_ | refine lkC_out ?_ | refine And.intro (by omega) ?_ | fail)
        refine .drop j ?_
        have hk := hK1 (by omega) (by omega) (by rw [hre]; decide)
        rw [hre] at hk
        refine FrK.now (hcast (hk) ?_)
        first | rfl | (funext i; simp only [hset, hdel]; repeat' split) <;> (first | rfl | (subst_vars; simp_all [hset, hdel]; done) | (subst_vars; exfalso; simp_all [hset, hdel]; done))
      | true =>
        rw [if_neg (by rw [hs]; decide)] at hre
        by_cases h0 : (ss.getD i default).row.bs.length = 0
        · rw [if_pos h0] at hre
          have e4 := eq_true h0
          repeat (first | (simp (maxSteps := 1000000) only [↓reduceIte, go_sem, hs, e1, e2, g0, g1, g7, g6, e4]) | (simp (maxSteps := 1000000) (disch := first | omega | assumption) only [BB, hs, e1, e2, g0, g1, g7, g6, e4]) | with_reducible refine Gst.now ?_ | with_reducible refine vawp_draw mixed (by kernel_rfl) ?_ | with_reducible first | refine lwV_out ?_ | refine lwV_out0 ?_ | refine lkC_out ?_ | refine And.intro (by omega) ?_ | fail)
          refine hq _ _ ?_
          repeat (first | (simp (maxSteps := 1000000) only [↓reduceIte, go_sem, e1, e2, g0, g1, g7, g6, e4]) | (simp (maxSteps := 1000000) (disch := first | omega | assumption) only [BB, e1, e2, g0, g1, g7, g6, e4]) | with_reducible refine Gst.now ?_ | with_reducible refine vawp_draw mixed (by kernel_rfl) ?_ | with_reducible first | refine lwV_out ?_ | refine lwV_out0 ?_ | refine lkC_out ?_ | refine And.intro (by omega) ?_ | fail)
          refine .drop j ?_
          have hk := hK1 (by omega) (by omega) (by rw [hre]; decide)
          rw [hre] at hk
          refine FrK.now (hcast (hk) ?_)
          first | rfl | (funext i; simp only [hset, hdel]; repeat' split) <;> (first | rfl | (subst_vars; simp_all [hset, hdel]; done) | (subst_vars; exfalso; simp_all [hset, hdel]; done))
        · rw [if_neg h0] at hre
          have e4 := eq_false h0
          have hll : ((rowsOf (ss.take i)).flatMap rowC).length = i := by rw [row_len, rowsOf_len, List.length_take]; omega
          repeat (first | (simp (maxSteps := 1000000) only [↓reduceIte, go_sem, hs, e1, e2, g0, g1, g7, g6, e4]) | (simp (maxSteps := 1000000) (disch := first | omega | assumption) only [BB, hs, e1, e2, g0, g1, g7, g6, e4]) | with_reducible refine Gst.now ?_ | with_reducible refine vawp_draw mixed (by kernel_rfl) ?_ | with_reducible first | refine lwV_out ?_ | refine lwV_out0 ?_ | refine lkC_out ?_ | refine And.intro (by omega) ?_ | fail)
          refine vBuildS_i bs24 ?_ ?_ ?_ ?_ ?_
          rfl
          rfl
          rfl
          rfl
          repeat (first | (simp (maxSteps := 1000000) only [↓reduceIte, go_sem]) | (simp (maxSteps := 1000000) (disch := first | omega | assumption) only [BB]) | with_reducible refine Gst.now ?_ | with_reducible refine vawp_draw mixed (by kernel_rfl) ?_ | with_reducible first | refine lwV_out ?_ | refine lwV_out0 ?_ | refine lkC_out ?_ | refine And.intro (by omega) ?_ | fail)
          generalize (rowsOf (ss.take i)).flatMap rowC = cs at *
          apply vApp_own_isl ap24 (by simp only [go_sem])
          case hv => first | (simp [hll]; done) | (simp [hll]; omega) | rfl | assumption
          case hj => repeat (first | exact hset_at _ _ _ | assumption | refine (hset_ne _ _ (by first | omega | assumption)).trans ?_ | refine (hdel_ne _ (by first | omega | assumption)).trans ?_ | fail)
          case hl => first | (simp [hll]; done) | (simp [hll]; omega) | rfl | assumption
          case h1 => first | omega | (simp [hll]; omega) | (simp [hll]; done)
          case h2 => first | omega | (simp [hll]; omega) | (simp [hll]; done)
          intro j' hj'
          try simp (disch := first | omega | assumption) only [go_sem, hset_none, hdel_none] at hj'
          try simp (disch := first | omega | assumption) only [hset_none, hdel_none] at hj'
          repeat (first | (simp (maxSteps := 1000000) only [↓reduceIte, go_sem, e1, e2, g0, g1, g7, g6, e4]) | (simp (maxSteps := 1000000) (disch := first | omega | assumption) only [BB, e1, e2, g0, g1, g7, g6, e4]) | with_reducible refine Gst.now ?_ | with_reducible refine vawp_draw mixed (by kernel_rfl) ?_ | with_reducible first | refine lwV_out ?_ | refine lwV_out0 ?_ | refine lkC_out ?_ | refine And.intro (by omega) ?_ | fail)
          refine ⟨k - 1, by omega, i + 1, by omega, rfl, hre, j', by simp [hj'], ⟨rfl, rfl⟩, ?_⟩
          rw [htk]; rfl
    · have hi : i = m := by omega
      subst hi
      rw [List.drop_of_length_le (by omega), rowE] at hre
      repeat (first | (simp (maxSteps := 1000000) only [↓reduceIte, go_sem, e1, e2, g0, g1, g7, g6]) | (simp (maxSteps := 1000000) (disch := first | omega | assumption) only [BB, e1, e2, g0, g1, g7, g6]) | with_reducible refine Gst.now ?_ | with_reducible refine vawp_draw mixed (by kernel_rfl) ?_ | with_reducible first | refine lwV_out ?_ | refine lwV_out0 ?_ | refine lkC_out ?_ | refine And.intro (by omega) ?_ | fail)
      refine hq _ _ ?_
      repeat (first | (simp (maxSteps := 1000000) only [↓reduceIte, go_sem, e1, e2, g0, g1, g7, g6]) | (simp (maxSteps := 1000000) (disch := first | omega | assumption) only [BB, e1, e2, g0, g1, g7, g6]) | with_reducible refine Gst.now ?_ | with_reducible refine vawp_draw mixed (by kernel_rfl) ?_ | with_reducible first | refine lwV_out ?_ | refine lwV_out0 ?_ | refine lkC_out ?_ | refine And.intro (by omega) ?_ | fail)
      refine frk_tup1 (hset_at _ _ _) ?_
      rw [hdel_hset hj]
      exact hK2 (by omega) (by omega) hre
end
end Go.Proofs.Ytgdhfabiljgdpaa.VSlots
