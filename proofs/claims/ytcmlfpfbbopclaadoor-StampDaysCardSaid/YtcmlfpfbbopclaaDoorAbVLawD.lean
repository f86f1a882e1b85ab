/- StampDays, over the machine of values. -/
import Derived.Test.YtcmlfpfbbopclaaDoorProg
import Derived.Test.YtcmlfpfbbopclaaDoorAbV12
import Derived.Test.YtcmlfpfbbopclaaDoorAbFacts
import Derived.Test.YtcmlfpfbbopclaaDoorAbVG
import Derived.Test.YtcmlfpfbbopclaaDoorAbVStamp
import Derived.Test.YtcmlfpfbbopclaaDoorAbVStamp2
import Derived.Test.YtcmlfpfbbopclaaDoorAbVStampR
import Derived.Test.YtcmlfpfbbopclaaDoorAbVLaw
import Derived.Laws.Bits128
import Derived.KernelRfl
import Derived.Laws.BitsAllLaws
set_option linter.unusedVariables false
set_option linter.unusedSimpArgs false
set_option maxRecDepth 100000
set_option maxHeartbeats 4000000
namespace Go.Proofs.YtcmlfpfbbopclaaDoor.VLawD
open Go.RowKit Go.Proofs.AbM Go.Proofs.YtcmlfpfbbopclaaDoor.Facts Go.Proofs.YtcmlfpfbbopclaaDoor.VG Go.Proofs.YtcmlfpfbbopclaaDoor.VStamp Go.Proofs.YtcmlfpfbbopclaaDoor.VStamp2 Go.Proofs.YtcmlfpfbbopclaaDoor.VStampR Go.Proofs.YtcmlfpfbbopclaaDoor.VLaw
attribute [local go_sem] vawp_skip_eq vawp_seq_eq vawp_region_eq vawp_cond_g vawp_block_eq vawp_exit_eq vawp_ret_eq thenV_ret thenV_exit thenV_normal inBlockV_normal inBlockV_ret inBlockV_exit resKV_nil resKV_tmp resKV_cell oneV_one oneV_nil oneV_more initV_nil initV_cons updV_at evv_tmp evv_func evv_global evv_int evv_bool evv_str evv_snil evv_pnil evv_agg ofV3_int ofV3_bool ofV3_str ofV3_snil ofV3_pnil vok_tmp vok_func vok_global vok_int vok_bool vok_str vok_snil vok_pnil vok_agg cloV3_int cloV3_bool cloV3_str cloV3_snil cloV3_pnil voks_nil voks_cons scV_int scV_bool scV_str isBlV_b isBV_t isBV_f lwV_none lwV_sc lwV_agg lwV_tup lwV_isl lwV_own lwV_op lwV_ip lwV_fn lwV_junk vops_nil vops_n vops_s gsN_eq vop dstOk_some dstOk_none pkV_b blkV_set eRead_f eRead_t vLoad_op vLoad_ip vStore_op cells_sc cells_isl cells_own cells_op cells_ip cells_fn cells_agg parts_sc parts_isl parts_own parts_op parts_ip parts_fn parts_agg one_sc one_isl one_own one_op one_ip one_fn vField_op vField_ip ePart_f ePart_t vFieldV_agg vIx_isl vIx_own vIx_op vIx_ip vIxV_agg vIxV_str vLen_str vLen_isl vLen_own vLen_agg bndE_none bndE_int vSlice_isl vSlice_str vBin_add vBin_sub vBin_mul vBin_quo vBin_rem vBin_and vBin_or vBin_xor vBin_andNot vBin_eql vBin_neq vBin_lss vBin_leq vBin_gtr vBin_geq vBin_shr_i8 vBin_shl_i8 vBin_shr_i16 vBin_shl_i16 vBin_shr_i32 vBin_shl_i32 vBin_shr_i64 vBin_shl_i64 vBin_shr_u8 vBin_shl_u8 vBin_shr_u16 vBin_shl_u16 vBin_shr_u32 vBin_shl_u32 vBin_shr_u64 vBin_shl_u64 vBin_seq vBin_sne vBin_isln vBin_opn vBin_ipn ex_sc ex_sc2 ex_sc3 ex_tup calleeV wSc_pb wSc_pi wSc_not wSc_neg wSc_com wSc_min2 wSc_max2 vfold_nil vfold_one vfold_cons vfill_nil vfill_e eFill_s vBuild vBox vAlloc setV_map setV_zs setV_zn setV_s hset_hset eConv_ss vConv_e iv_eq ivI_eq ex_get ex_getI set_iv set_ivI okNil isNilV isSlV hdel_at hset_at List.map_toArray List.map_cons List.map_nil List.nil_append List.cons_append List.append_nil List.toList_toArray List.getElem?_toArray List.getElem_toArray List.getElem_cons_zero List.getElem_cons_succ List.getElem?_cons_zero List.getElem?_cons_succ List.set_cons_zero List.set_cons_succ List.set_set List.length_cons List.length_nil List.length_set List.length_map List.all_cons List.all_nil List.drop_zero List.drop_succ_cons List.take_succ_cons List.take_zero List.flatMap_cons Bool.and_eq_true true_and and_true if_true if_false ite_true ite_false forall_eq' forall_eq exists_eq_left exists_eq_left' exists_eq' Value.bool.injEq Value.int.injEq Value.string.injEq Value.pointer.injEq Option.some.injEq AV.sc.injEq AV.op.injEq AV.ip.injEq AV.own.injEq AV.agg.injEq VB.cells.injEq VB.iter.injEq Prod.mk.injEq decide_eq_true_eq decide_eq_false_iff_not Nat.reduceEqDiff Nat.reduceLT Nat.reduceLeDiff Nat.reduceSub Nat.reduceBEq reduceIte Int.reduceLE Int.reduceLT Int.reduceToNat Int.reduceNeg Int.reduceEq Int.reduceNe Int.cast_ofNat_Int Nat.reduceMul Nat.reduceAdd Nat.reduceDiv Nat.reduceMod Nat.reducePow Int.reduceSub Int.reduceAdd Int.reduceMul Int.reducePow Option.isSome_some Option.isSome_none Option.bind_some Option.map_some Option.map_none Option.toList_some Option.toList_none true_or or_true or_false false_or Bool.not_true Bool.not_false Bool.not_eq_true Bool.false_eq_true Bool.not_not false_implies true_implies implies_true Nat.zero_add Nat.add_zero Nat.mul_one Bool.not_eq_true' Bool.true_eq_false Bool.and_true Bool.true_and Bool.and_false Bool.false_and Bool.or_true Bool.true_or Bool.or_false Bool.false_or Option.isNone_some Option.isNone_none Int.reduceBEq Int.reduceBNe beq_self_eq_true bne_self_eq_false beq_iff_eq not_false_eq_true not_true_eq_false Decidable.not_not bne_iff_ne ne_eq Int.toNat_natCast gt_lt ge_le c_add c_mul c_sub c_addn c_nadd c_muln c_nmul c_subn c_nsub c_divn c_modn c_div c_mod c_tdivn c_tmodn c_tdiv c_tmod c_pow c_nn c_beq c_beqn c_bne c_bnen wr64 wr32 wru64 wru32 wru16 wru8 c_if c_if1 c_if2 c_lt c_le c_eq c_ltn c_len c_nlt c_nle c_eqn m_drop m_take Nat.add_sub_cancel_left Nat.add_sub_cancel Int.reduceTMod Int.reduceTDiv Int.reduceMod Int.reduceDiv isC_some hset_ne hdel_ne hdel_hset hdel_hset_ne blkV_nset blkV_ndel hset_hdel gV_t gV_f isGdV_b isGdV_u isBV_u isGdV_g isBV_gt isBV_gf decide_true decide_false Bool.or_eq_false_iff eq_self Nat.lt_irrefl Int.lt_irrefl Nat.le_refl Int.le_refl
attribute [local go_sem high] vops_pk vops_mv vops_as vops_smv pk_and pk_or pk_gand pk_gor pk_orn pk_gorn
attribute [local go_sem] ag3 sz3 zc3 ik3 ag4 sz4 zc4 ag23 sz23 zc23 eqs23 nes23 bo23 ag24 sz24 zc24 ik24 ag27 sz27 zc27 ik27 ag44 sz44 ea44 an44 zc44 bo44 ag46 sz46 el46 zc46 is46 of23_0 fd23_0 of23_1 fd23_1 of23_2 fd23_2 of23_3 fd23_3 of23_4 fd23_4 of23_5 fd23_5 eqb neb
section
variable {n : Nat} {h : VH} {K : AV → VH → Prop}
attribute [local go_sem] GL_days sC
def cumD (y : Int) : Nat → Int
  | 0 => 0
  | m + 1 => cumD y m + daysI y m
theorem daysI_ge {y m : Int} (h1 : 1 ≤ m) (h2 : m ≤ 12) : 28 ≤ daysI y m := by
  unfold daysI
  rw [if_neg (by omega)]
  split
  · omega
  · have : ∀ i : Fin 12, 28 ≤ days.getD (i.1 + 1) 0 := by decide
    have := this ⟨m.toNat - 1, by omega⟩
    rwa [show m.toNat - 1 + 1 = m.toNat by omega] at this
theorem cumD_b (y : Int) : ∀ m, 0 ≤ cumD y m ∧ cumD y m ≤ 31 * m
  | 0 => by simp [cumD]
  | m + 1 => by
    have h1 := cumD_b y m
    have h2 := daysI_le y m
    have h3 : 0 ≤ daysI y m := by
      by_cases hm : (m : Int) < 1 ∨ 12 < (m : Int)
      · unfold daysI; rw [if_pos hm]; omega
      · have := daysI_ge (y := y) (m := m) (by omega) (by omega); omega
    simp only [cumD]
    omega
theorem leap_iff {y : Int} (h1 : 1980 ≤ y) (h2 : y ≤ 2107) : leap y = (y.tmod 4 == 0 && y != 2100) := by
  have hall : ∀ k : Fin 128, leap (1980 + (k.1 : Int)) = ((1980 + (k.1 : Int)).tmod 4 == 0 && (1980 + (k.1 : Int)) != 2100) := by decide
  have := hall ⟨(y - 1980).toNat, by omega⟩
  rwa [show 1980 + (((y - 1980).toNat : Nat) : Int) = y by omega] at this
theorem cumD_13 {y : Int} : cumD y 13 = if leap y = true then 366 else 365 := by
  have e : ∀ m : Nat, m ≠ 2 → 1 ≤ m → m ≤ 12 → daysI y m = days.getD m 0 := by
    intro m h2 h1 h12
    unfold daysI
    rw [if_neg (by omega), if_neg (by omega)]; rfl
  have e0 : daysI y ((0 : Nat) : Int) = 0 := by unfold daysI; rw [if_pos (by omega)]
  have e2 : daysI y ((2 : Nat) : Int) = if leap y = true then 29 else 28 := by
    unfold daysI
    rw [if_neg (by omega)]
    by_cases hl : leap y = true
    · rw [if_pos ⟨rfl, hl⟩, if_pos hl]
    · rw [if_neg (fun hh => hl hh.2), if_neg hl]; rfl
  simp only [cumD, e0, e2, e 1 (by omega) (by omega) (by omega), e 3 (by omega) (by omega) (by omega), e 4 (by omega) (by omega) (by omega), e 5 (by omega) (by omega) (by omega), e 6 (by omega) (by omega) (by omega), e 7 (by omega) (by omega) (by omega), e 8 (by omega) (by omega) (by omega), e 9 (by omega) (by omega) (by omega), e 10 (by omega) (by omega) (by omega), e 11 (by omega) (by omega) (by omega), e 12 (by omega) (by omega) (by omega)]
  split <;> rfl
theorem days_law {x : Int} (hK : ∀ h', K (.sc (.bool (true))) h') : VC Tryd.prog GL (n + 5) 5 [(.sc (.int .i64 (x)))] h K := by
  refine VC_go Tryd.func5 rfl (by decide) Tryd.ntmps5 Tryd.results5 rfl fun Q hq hn => ?_
  have e9 := i64_and127 x
  have hx : 0 ≤ x % 128 ∧ x % 128 < 128 := by omega
  repeat (first | (simp (maxSteps := 1000000) only [↓reduceIte, go_sem, e9]) | (simp (maxSteps := 1000000) (disch := first | omega | assumption) only [BB, e9]) | with_reducible refine Gst.now ?_ | with_reducible refine vawp_draw mixed (by kernel_rfl) ?_ | with_reducible first | refine lwV_out ?_ | refine lwV_out0 ?_ | refine lkC_out ?_ | refine And.intro (by omega) ?_ | fail)
  with_reducible refine call_pure ?_
  refine alive_v fun _ => ⟨rfl, ?_⟩
  generalize hy : 1980 + x % 128 = y at *
  have hyb : 1980 ≤ y ∧ y ≤ 2107 := by omega
  repeat (first | (simp (maxSteps := 1000000) only [↓reduceIte, go_sem, hy, e9]) | (simp (maxSteps := 1000000) (disch := first | omega | assumption) only [BB, hy, e9]) | with_reducible refine Gst.now ?_ | with_reducible refine vawp_draw mixed (by kernel_rfl) ?_ | with_reducible first | refine lwV_out ?_ | refine lwV_out0 ?_ | refine lkC_out ?_ | refine And.intro (by omega) ?_ | fail)
  refine vawp_loop (k := 12) (fun k ρ h1 => ∃ m : Nat, k + m = 13 ∧ 1 ≤ m ∧ ρ 0 = (.sc (.int .i64 (y))) ∧ ρ 3 = (.sc (.int .i64 (cumD y m))) ∧ ρ 5 = (.sc (.int .i64 (m))) ∧ h1 = h ∧ ∃ l : Int, ρ 4 = (.sc (.int .i64 (l))) ∧ -1 ≤ l ∧ l ≤ (y - 1980) * 512 + m * 32) ?_ ?_
  · refine ⟨1, by omega, by omega, ?_⟩
    repeat (first | (simp (maxSteps := 1000000) only [↓reduceIte, go_sem]) | (simp (maxSteps := 1000000) (disch := first | omega | assumption) only [BB]) | with_reducible refine Gst.now ?_ | with_reducible refine vawp_draw mixed (by kernel_rfl) ?_ | with_reducible first | refine lwV_out ?_ | refine lwV_out0 ?_ | refine lkC_out ?_ | refine And.intro (by omega) ?_ | fail)
    have e0 : cumD y 1 = 0 := by
      show cumD y 0 + daysI y ((0 : Nat) : Int) = 0
      rw [show daysI y ((0 : Nat) : Int) = 0 by unfold daysI; rw [if_pos (by omega)]]; rfl
    exact ⟨e0.symm, by omega⟩
  · rintro k ρ h1 ⟨m, hkm, hm1, g0, g3, g5, rfl, l, g4, hl0, hl⟩
    have hcb := cumD_b y m
    repeat (first | (simp (maxSteps := 1000000) only [↓reduceIte, go_sem, g0, g3, g5, g4]) | (simp (maxSteps := 1000000) (disch := first | omega | assumption) only [BB, g0, g3, g5, g4]) | with_reducible refine Gst.now ?_ | with_reducible refine vawp_draw mixed (by kernel_rfl) ?_ | with_reducible first | refine lwV_out ?_ | refine lwV_out0 ?_ | refine lkC_out ?_ | refine And.intro (by omega) ?_ | fail)
    split
    · rename_i hm
      have hm12 : m ≤ 12 := by omega
      have hdg := daysI_ge (y := y) (m := m) (by omega) (by omega)
      have hdl := daysI_le y m
      have hcs : cumD y (m + 1) = cumD y m + daysI y m := rfl
      repeat (first | (simp (maxSteps := 1000000) only [↓reduceIte, go_sem, g0, g3, g5, g4]) | (simp (maxSteps := 1000000) (disch := first | omega | assumption) only [BB, g0, g3, g5, g4]) | with_reducible refine Gst.now ?_ | with_reducible refine vawp_draw mixed (by kernel_rfl) ?_ | with_reducible first | refine lwV_out ?_ | refine lwV_out0 ?_ | refine lkC_out ?_ | refine And.intro (by omega) ?_ | fail)
      generalize hD : daysI y m = D at *
      refine vawp_loop (k := 32) (fun k2 ρ2 h2 => ∃ dd : Nat, k2 + dd = 33 ∧ 1 ≤ dd ∧ (dd : Int) ≤ D + 1 ∧ ρ2 0 = (.sc (.int .i64 (y))) ∧ ρ2 3 = (.sc (.int .i64 (cumD y m + (dd - 1)))) ∧ ρ2 5 = (.sc (.int .i64 (m))) ∧ ρ2 6 = (.sc (.int .i64 (dd))) ∧ h2 = h1 ∧ ∃ l : Int, ρ2 4 = (.sc (.int .i64 (l))) ∧ -1 ≤ l ∧ l < (y - 1980) * 512 + m * 32 + dd) ?_ ?_
      · refine ⟨1, by omega, by omega, by omega, ?_⟩
        repeat (first | (simp (maxSteps := 1000000) only [↓reduceIte, go_sem, g0, g3, g5, g4]) | (simp (maxSteps := 1000000) (disch := first | omega | assumption) only [BB, g0, g3, g5, g4]) | with_reducible refine Gst.now ?_ | with_reducible refine vawp_draw mixed (by kernel_rfl) ?_ | with_reducible first | refine lwV_out ?_ | refine lwV_out0 ?_ | refine lkC_out ?_ | refine And.intro (by omega) ?_ | fail)
        omega
      · rintro k2 ρ2 h2 ⟨dd, hkd, hd1, hdD, g0, g3, g5, g6, rfl, l2, g4, hm0, hm2⟩
        repeat (first | (simp (maxSteps := 1000000) only [↓reduceIte, go_sem, g0, g3, g5, g4, g6]) | (simp (maxSteps := 1000000) (disch := first | omega | assumption) only [BB, g0, g3, g5, g4, g6]) | with_reducible refine Gst.now ?_ | with_reducible refine vawp_draw mixed (by kernel_rfl) ?_ | with_reducible first | refine lwV_out ?_ | refine lwV_out0 ?_ | refine lkC_out ?_ | refine And.intro (by omega) ?_ | fail)
        with_reducible refine call_ok ?_
        refine days_v ?_
        rw [hD]
        repeat (first | (simp (maxSteps := 1000000) only [↓reduceIte, go_sem, g0, g3, g5, g4, g6]) | (simp (maxSteps := 1000000) (disch := first | omega | assumption) only [BB, g0, g3, g5, g4, g6]) | with_reducible refine Gst.now ?_ | with_reducible refine vawp_draw mixed (by kernel_rfl) ?_ | with_reducible first | refine lwV_out ?_ | refine lwV_out0 ?_ | refine lkC_out ?_ | refine And.intro (by omega) ?_ | fail)
        split
        · rename_i hle
          have hr : rightB ⟨y, m, dd, 0, 0, 0⟩ = true := right_iff.2 ⟨hyb, by simp only; omega, by simp only; rw [hD]; omega, by simp only; omega, by simp only; omega, by simp only; omega, rfl⟩
          have hpb := pack_b hr
          repeat (first | (simp (maxSteps := 1000000) only [↓reduceIte, go_sem, g0, g3, g5, g4, g6]) | (simp (maxSteps := 1000000) (disch := first | omega | assumption) only [BB, g0, g3, g5, g4, g6]) | with_reducible refine Gst.now ?_ | with_reducible refine vawp_draw mixed (by kernel_rfl) ?_ | with_reducible first | refine lwV_out ?_ | refine lwV_out0 ?_ | refine lkC_out ?_ | refine And.intro (by omega) ?_ | fail)
          with_reducible refine call_ok ?_
          refine pack_v (t := ⟨y, m, dd, 0, 0, 0⟩) (fun _ => ?_) (fun hh => by rw [hr] at hh; cases hh)
          have hpd : packD ⟨y, m, dd, 0, 0, 0⟩ = (y - 1980) * 512 + m * 32 + dd := rfl
          have hpt : packT ⟨y, m, dd, 0, 0, 0⟩ = 0 := rfl
          rw [hpt]
          generalize packD ⟨y, m, dd, 0, 0, 0⟩ = q at *
          have e1 : (q ≤ l2) = False := eq_false (by omega)
          repeat (first | (simp (maxSteps := 1000000) only [↓reduceIte, go_sem, g0, g3, g5, g4, g6, e1]) | (simp (maxSteps := 1000000) (disch := first | omega | assumption) only [BB, g0, g3, g5, g4, g6, e1]) | with_reducible refine Gst.now ?_ | with_reducible refine vawp_draw mixed (by kernel_rfl) ?_ | with_reducible first | refine lwV_out ?_ | refine lwV_out0 ?_ | refine lkC_out ?_ | refine And.intro (by omega) ?_ | fail)
          refine ⟨k2 - 1, by omega, dd + 1, by omega, by omega, by omega, by omega, rfl, by omega, by omega⟩
        · rename_i hle
          have hdd : (dd : Int) = D + 1 := by omega
          have hr : rightB ⟨y, m, D + 1, 0, 0, 0⟩ = false := by
            rw [Bool.eq_false_iff]
            intro hh
            have := (right_iff.1 hh).2.2.1
            simp only at this
            rw [hD] at this
            omega
          repeat (first | (simp (maxSteps := 1000000) only [↓reduceIte, go_sem, g0, g3, g5, g4, g6]) | (simp (maxSteps := 1000000) (disch := first | omega | assumption) only [BB, g0, g3, g5, g4, g6]) | with_reducible refine Gst.now ?_ | with_reducible refine vawp_draw mixed (by kernel_rfl) ?_ | with_reducible first | refine lwV_out ?_ | refine lwV_out0 ?_ | refine lkC_out ?_ | refine And.intro (by omega) ?_ | fail)
          with_reducible refine call_ok ?_
          refine days_v ?_
          rw [hD]
          repeat (first | (simp (maxSteps := 1000000) only [↓reduceIte, go_sem, g0, g3, g5, g4, g6]) | (simp (maxSteps := 1000000) (disch := first | omega | assumption) only [BB, g0, g3, g5, g4, g6]) | with_reducible refine Gst.now ?_ | with_reducible refine vawp_draw mixed (by kernel_rfl) ?_ | with_reducible first | refine lwV_out ?_ | refine lwV_out0 ?_ | refine lkC_out ?_ | refine And.intro (by omega) ?_ | fail)
          with_reducible refine call_ok ?_
          refine pack_v (t := ⟨y, m, D + 1, 0, 0, 0⟩) (fun hh => by rw [hr] at hh; cases hh) (fun _ => ?_)
          repeat (first | (simp (maxSteps := 1000000) only [↓reduceIte, go_sem, g0, g3, g5, g4, g6]) | (simp (maxSteps := 1000000) (disch := first | omega | assumption) only [BB, g0, g3, g5, g4, g6]) | with_reducible refine Gst.now ?_ | with_reducible refine vawp_draw mixed (by kernel_rfl) ?_ | with_reducible first | refine lwV_out ?_ | refine lwV_out0 ?_ | refine lkC_out ?_ | refine And.intro (by omega) ?_ | fail)
          refine ⟨k - 1, by omega, m + 1, by omega, by omega, by rw [hcs]; omega, rfl, by omega, by omega⟩
    · have hm13 : m = 13 := by omega
      subst hm13
      have hlp := leap_iff hyb.1 hyb.2
      have h13 := cumD_13 (y := y)
      rw [h13] at g3
      repeat (first | (simp (maxSteps := 1000000) only [↓reduceIte, go_sem, g0, g3, g5, g4]) | (simp (maxSteps := 1000000) (disch := first | omega | assumption) only [BB, g0, g3, g5, g4]) | with_reducible refine vawp_draw mixed (by kernel_rfl) ?_ | with_reducible first | refine lwV_out ?_ | refine lwV_out0 ?_ | refine lkC_out ?_ | refine And.intro (by omega) ?_ | fail)
      first | (with_reducible refine Gst.now ?_) | (with_reducible refine lkC_out ?_; simp only [vawp_skip_eq, thenV_normal]; with_reducible refine Gst.now ?_) | (with_reducible refine lkC_out ?_)
      try simp only [vawp_seq_eq, vawp_block_eq]
      with_reducible refine vawp_regq ?_
      simp only [List.toList_toArray]
      repeat (first | (apply vopsQ_pk; (case hd => rfl); (case h1 => simp (disch := first | omega | assumption) only [↓reduceIte, go_sem, g0, g3, g5, g4]); (case h2 => simp (disch := first | omega | assumption) only [↓reduceIte, go_sem, g0, g3, g5, g4]); (case h3 => simp (disch := first | omega | assumption) only [↓reduceIte, go_sem, g0, g3, g5, g4]); (case hb => simp (disch := first | omega | assumption) only [↓reduceIte, go_sem, g0, g3, g5, g4]); (try simp (disch := first | omega | assumption) only [↓reduceIte, go_sem, g0, g3, g5, g4])) | (apply vopsQ_n; (case hd => rfl); (case hq => (intro K' hk'; repeat (first | simp (maxSteps := 4000000) (disch := first | omega | assumption) only [↓reduceIte, go_sem, g0, g3, g5, g4] | with_reducible refine Gst.now ?_ | with_reducible refine vawp_draw mixed (by kernel_rfl) ?_ | with_reducible first | refine lwV_out ?_ | refine lwV_out0 ?_ | refine lkC_out ?_ | refine And.intro (by omega) ?_ | fail); exact hk'))) | (apply vopsQ_gt; (case hd => rfl); (case h1 => rfl); (case h2 => rfl); (case h3 => simp (disch := first | omega | assumption) only [↓reduceIte, go_sem]); (case hq => (intro K' hk'; repeat (first | simp (maxSteps := 4000000) (disch := first | omega | assumption) only [↓reduceIte, go_sem, g0, g3, g5, g4] | with_reducible refine Gst.now ?_ | with_reducible refine vawp_draw mixed (by kernel_rfl) ?_ | with_reducible first | refine lwV_out ?_ | refine lwV_out0 ?_ | refine lkC_out ?_ | refine And.intro (by omega) ?_ | fail); exact hk'))) | (apply vopsQ_gf'; (case hd => rfl); (case h1 => rfl); (case h2 => rfl); (case h3 => simp (disch := first | omega | assumption) only [↓reduceIte, go_sem, g0, g3, g5, g4])) | (apply vopsQ_gj; (case hd => rfl); (case h1 => rfl); (case h2 => rfl); (case h3 => simp (disch := first | omega | assumption) only [↓reduceIte, go_sem, g0, g3, g5, g4])) | (apply vopsQ_gpk; (case hd => rfl); (case h1 => rfl); (case h2 => rfl); (case h3 => simp (disch := first | omega | assumption) only [↓reduceIte, go_sem, g0, g3, g5, g4]); (case k1 => simp (disch := first | omega | assumption) only [↓reduceIte, go_sem, g0, g3, g5, g4]); (case k2 => simp (disch := first | omega | assumption) only [↓reduceIte, go_sem, g0, g3, g5, g4]); (case k3 => simp (disch := first | omega | assumption) only [↓reduceIte, go_sem, g0, g3, g5, g4]); (case hb => (intro hc; (try simp (disch := first | omega | assumption) only [↓reduceIte, go_sem, g0, g3, g5, g4] at hc); simp (disch := first | omega | assumption) only [↓reduceIte, go_sem, hc, g0, g3, g5, g4])); (try simp (disch := first | omega | assumption) only [↓reduceIte, go_sem, g0, g3, g5, g4])) | (apply vopsQ_gu; (case hd => rfl); (case h1 => rfl); (case h2 => rfl); (case h3 => simp (disch := first | omega | assumption) only [↓reduceIte, go_sem, g0, g3, g5, g4]); (case hq => (intro hc K' hk'; (try simp (disch := first | omega | assumption) only [↓reduceIte, go_sem, g0, g3, g5, g4] at hc); repeat (first | simp (maxSteps := 4000000) (disch := first | omega | assumption) only [↓reduceIte, go_sem, hc, g0, g3, g5, g4] | with_reducible refine Gst.now ?_ | with_reducible refine vawp_draw mixed (by kernel_rfl) ?_ | with_reducible first | refine lwV_out ?_ | refine lwV_out0 ?_ | refine lkC_out ?_ | refine And.intro (by omega) ?_ | fail); exact hk')); (try simp (disch := first | omega | assumption) only [↓reduceIte, go_sem, g0, g3, g5, g4])) | fail)
      simp only [vopsQ_nil]
      rw [← hlp]
      cases hl : leap y with
      | true =>
        rw [hl, if_pos rfl] at g3
        repeat (first | (simp (maxSteps := 1000000) only [↓reduceIte, go_sem, g0, g3, g5, g4]) | (simp (maxSteps := 1000000) (disch := first | omega | assumption) only [BB, g0, g3, g5, g4]) | with_reducible refine Gst.now ?_ | with_reducible refine vawp_draw mixed (by kernel_rfl) ?_ | with_reducible first | refine lwV_out ?_ | refine lwV_out0 ?_ | refine lkC_out ?_ | refine And.intro (by omega) ?_ | fail)
        refine hq _ _ ?_
        repeat (first | (simp (maxSteps := 1000000) only [↓reduceIte, go_sem, g0, g3, g5, g4]) | (simp (maxSteps := 1000000) (disch := first | omega | assumption) only [BB, g0, g3, g5, g4]) | with_reducible refine Gst.now ?_ | with_reducible refine vawp_draw mixed (by kernel_rfl) ?_ | with_reducible first | refine lwV_out ?_ | refine lwV_out0 ?_ | refine lkC_out ?_ | refine And.intro (by omega) ?_ | fail)
        exact .now (hK _)
      | false =>
        rw [hl, if_neg (by decide)] at g3
        repeat (first | (simp (maxSteps := 1000000) only [↓reduceIte, go_sem, g0, g3, g5, g4]) | (simp (maxSteps := 1000000) (disch := first | omega | assumption) only [BB, g0, g3, g5, g4]) | with_reducible refine Gst.now ?_ | with_reducible refine vawp_draw mixed (by kernel_rfl) ?_ | with_reducible first | refine lwV_out ?_ | refine lwV_out0 ?_ | refine lkC_out ?_ | refine And.intro (by omega) ?_ | fail)
        refine hq _ _ ?_
        repeat (first | (simp (maxSteps := 1000000) only [↓reduceIte, go_sem, g0, g3, g5, g4]) | (simp (maxSteps := 1000000) (disch := first | omega | assumption) only [BB, g0, g3, g5, g4]) | with_reducible refine Gst.now ?_ | with_reducible refine vawp_draw mixed (by kernel_rfl) ?_ | with_reducible first | refine lwV_out ?_ | refine lwV_out0 ?_ | refine lkC_out ?_ | refine And.intro (by omega) ?_ | fail)
        exact .now (hK _)
end
end Go.Proofs.YtcmlfpfbbopclaaDoor.VLawD
