/- tables of slots, over the machine of values: which are the same. -/
import Derived.Test.YtgdhfabiljgdpaaProg
import Derived.Test.YtgdhfabiljgdpaaAbV16
import Derived.Test.YtgdhfabiljgdpaaAbFacts
import Derived.Test.YtgdhfabiljgdpaaAbVRows
import Derived.Test.YtgdhfabiljgdpaaAbVRows2
import Derived.Test.YtgdhfabiljgdpaaAbVSlots
import Derived.Test.YtgdhfabiljgdpaaAbVSame
import Derived.KernelRfl
import Derived.Laws.BitsAllLaws
set_option linter.unusedVariables false
set_option linter.unusedSimpArgs false
set_option maxRecDepth 100000
set_option maxHeartbeats 4000000
namespace Go.Proofs.Ytgdhfabiljgdpaa.VSlots2
open Go.RowKit Go.Proofs.AbM Go.Proofs.Ytgdhfabiljgdpaa.Facts Go.Proofs.Ytgdhfabiljgdpaa.VRows Go.Proofs.Ytgdhfabiljgdpaa.VRows2 Go.Proofs.Ytgdhfabiljgdpaa.VSlots Go.Proofs.Ytgdhfabiljgdpaa.VSame
attribute [local go_sem] vawp_skip_eq vawp_seq_eq vawp_region_eq vawp_cond_g vawp_block_eq vawp_exit_eq vawp_ret_eq thenV_ret thenV_exit thenV_normal inBlockV_normal inBlockV_ret inBlockV_exit resKV_nil resKV_tmp resKV_cell oneV_one oneV_nil oneV_more initV_nil initV_cons updV_at evv_tmp evv_func evv_global evv_int evv_bool evv_str evv_snil evv_pnil evv_agg ofV3_int ofV3_bool ofV3_str ofV3_snil ofV3_pnil vok_tmp vok_func vok_global vok_int vok_bool vok_str vok_snil vok_pnil vok_agg cloV3_int cloV3_bool cloV3_str cloV3_snil cloV3_pnil voks_nil voks_cons scV_int scV_bool scV_str isBlV_b isBV_t isBV_f lwV_none lwV_sc lwV_agg lwV_tup lwV_isl lwV_own lwV_op lwV_ip lwV_fn lwV_junk vops_nil vops_n vops_s gsN_eq vop dstOk_some dstOk_none pkV_b blkV_set eRead_f eRead_t vLoad_op vLoad_ip vStore_op cells_sc cells_isl cells_own cells_op cells_ip cells_fn cells_agg parts_sc parts_isl parts_own parts_op parts_ip parts_fn parts_agg one_sc one_isl one_own one_op one_ip one_fn vField_op vField_ip ePart_f ePart_t vFieldV_agg vIx_isl vIx_own vIx_op vIx_ip vIxV_agg vIxV_str vLen_str vLen_isl vLen_own vLen_agg bndE_none bndE_int vSlice_isl vSlice_str vBin_add vBin_sub vBin_mul vBin_quo vBin_rem vBin_and vBin_or vBin_xor vBin_andNot vBin_eql vBin_neq vBin_lss vBin_leq vBin_gtr vBin_geq vBin_shr_i8 vBin_shl_i8 vBin_shr_i16 vBin_shl_i16 vBin_shr_i32 vBin_shl_i32 vBin_shr_i64 vBin_shl_i64 vBin_shr_u8 vBin_shl_u8 vBin_shr_u16 vBin_shl_u16 vBin_shr_u32 vBin_shl_u32 vBin_shr_u64 vBin_shl_u64 vBin_seq vBin_sne vBin_isln vBin_opn vBin_ipn ex_sc ex_sc2 ex_sc3 ex_tup calleeV wSc_pb wSc_pi wSc_not wSc_neg wSc_com wSc_min2 wSc_max2 vfold_nil vfold_one vfold_cons vfill_nil vfill_e eFill_s vBuild vBox vAlloc setV_map setV_zs setV_zn setV_s hset_hset eConv_ss vConv_e iv_eq ivI_eq ex_get ex_getI set_iv set_ivI okNil isNilV isSlV hdel_at hset_at List.map_toArray List.map_cons List.map_nil List.nil_append List.cons_append List.append_nil List.toList_toArray List.getElem?_toArray List.getElem_toArray List.getElem_cons_zero List.getElem_cons_succ List.getElem?_cons_zero List.getElem?_cons_succ List.set_cons_zero List.set_cons_succ List.set_set List.length_cons List.length_nil List.length_set List.length_map List.all_cons List.all_nil List.drop_zero List.drop_succ_cons List.take_succ_cons List.take_zero List.flatMap_cons Bool.and_eq_true true_and and_true if_true if_false ite_true ite_false forall_eq' forall_eq exists_eq_left exists_eq_left' exists_eq' Value.bool.injEq Value.int.injEq Value.string.injEq Value.pointer.injEq Option.some.injEq AV.sc.injEq AV.op.injEq AV.ip.injEq AV.own.injEq AV.agg.injEq VB.cells.injEq VB.iter.injEq Prod.mk.injEq decide_eq_true_eq decide_eq_false_iff_not Nat.reduceEqDiff Nat.reduceLT Nat.reduceLeDiff Nat.reduceSub Nat.reduceBEq reduceIte Int.reduceLE Int.reduceLT Int.reduceToNat Int.reduceNeg Int.reduceEq Int.reduceNe Int.cast_ofNat_Int Nat.reduceMul Nat.reduceAdd Nat.reduceDiv Nat.reduceMod Nat.reducePow Int.reduceSub Int.reduceAdd Int.reduceMul Int.reducePow Option.isSome_some Option.isSome_none Option.bind_some Option.map_some Option.map_none Option.toList_some Option.toList_none true_or or_true or_false false_or Bool.not_true Bool.not_false Bool.not_eq_true Bool.false_eq_true Bool.not_not false_implies true_implies implies_true Nat.zero_add Nat.add_zero Nat.mul_one Bool.not_eq_true' Bool.true_eq_false Bool.and_true Bool.true_and Bool.and_false Bool.false_and Bool.or_true Bool.true_or Bool.or_false Bool.false_or Option.isNone_some Option.isNone_none Int.reduceBEq Int.reduceBNe beq_self_eq_true bne_self_eq_false beq_iff_eq not_false_eq_true not_true_eq_false Decidable.not_not bne_iff_ne ne_eq Int.toNat_natCast gt_lt ge_le c_add c_mul c_sub c_addn c_nadd c_muln c_nmul c_subn c_nsub c_divn c_modn c_div c_mod c_tdivn c_tmodn c_tdiv c_tmod c_pow c_nn c_beq c_beqn c_bne c_bnen wr64 wr32 wru64 wru32 wru16 wru8 c_if c_if1 c_if2 c_lt c_le c_eq c_ltn c_len c_nlt c_nle c_eqn m_drop m_take Nat.add_sub_cancel_left Nat.add_sub_cancel Int.reduceTMod Int.reduceTDiv Int.reduceMod Int.reduceDiv isC_some hset_ne hdel_ne hdel_hset hdel_hset_ne blkV_nset blkV_ndel hset_hdel gV_t gV_f isGdV_b isGdV_u isBV_u isGdV_g isBV_gt isBV_gf decide_true decide_false Bool.or_eq_false_iff eq_self Nat.lt_irrefl Int.lt_irrefl Nat.le_refl Int.le_refl
attribute [local go_sem high] vops_pk vops_mv vops_as vops_smv pk_and pk_or pk_gand pk_gor pk_orn pk_gorn
attribute [local go_sem] ag3 sz3 zc3 ik3 ag4 sz4 zc4 ag5 sz5 zc5 ik5 ag9 sz9 zc9 iq9 ag22 sz22 el22 zc22 is22 ag24 sz24 el24 zc24 is24 ag25 sz25 el25 zc25 is25 ag27 sz27 zc27 bo27 ag29 sz29 zc29 ik29 ag41 sz41 zc41 eqs41 nes41 bo41 ag55 sz55 zc55 of27_0 fd27_0 of27_1 fd27_1 of41_0 fd41_0 of41_1 fd41_1 eqb neb
section
variable {n : Nat} {h : VH} {K : AV → VH → Prop}
attribute [local go_sem] rowC rowA ex_row row_len row_take row_drop Nat.sub_zero Nat.zero_le slotC ex_slot0 ex_slot1 slot_len slot_take
def sameRs (xs ys : List RowV) : Bool := decide (xs.map (·.bs) = ys.map (·.bs))
theorem rows_v {nl nl2 : Bool} {l l2 : Nat} {xs ys : List RowV} (hl : l = xs.length) (hl2 : l2 = ys.length) (hb : xs.length ≤ 140737488355328) (hb2 : ys.length ≤ 140737488355328) (hx : ∀ r ∈ xs, r.bs.length ≤ 140737488355328) (he : xs.map (·.bs) = ys.map (·.bs)) (hK : K (.sc (.bool (true))) h) : VC Try.prog GL (n + 2) 11 [.isl nl l (xs.flatMap rowC), .isl nl2 l2 (ys.flatMap rowC)] h K := by
  refine VC_go Try.func11 rfl (by decide) Try.ntmps11 Try.results11 rfl fun Q hq hn => ?_
  subst hl hl2
  have hll : xs.length = ys.length := by have := congrArg List.length he; simpa using this
  have e1 : decide (xs.length = ys.length) = true := decide_eq_true hll
  repeat (first | (simp (maxSteps := 1000000) only [↓reduceIte, go_sem, hll, e1]) | (simp (maxSteps := 1000000) (disch := first | omega | assumption) only [BB, hll, e1]) | with_reducible refine Gst.now ?_ | with_reducible refine vawp_draw mixed (by kernel_rfl) ?_ | with_reducible first | refine lwV_out ?_ | refine lwV_out0 ?_ | refine lkC_out ?_ | refine And.intro (by omega) ?_ | fail)
  refine vawp_loop (k := xs.length) (fun k ρ h1 => ∃ i : Nat, k + i = xs.length ∧ ρ 0 = .isl nl xs.length (xs.flatMap rowC) ∧ ρ 1 = .isl nl2 ys.length (ys.flatMap rowC) ∧ ρ 5 = (.sc (.int .i64 (i))) ∧ h1 = h) ?_ ?_
  · refine ⟨0, by omega, ?_⟩
    repeat (first | (simp (maxSteps := 1000000) only [↓reduceIte, go_sem, hll, e1]) | (simp (maxSteps := 1000000) (disch := first | omega | assumption) only [BB, hll, e1]) | with_reducible refine Gst.now ?_ | with_reducible refine vawp_draw mixed (by kernel_rfl) ?_ | with_reducible first | refine lwV_out ?_ | refine lwV_out0 ?_ | refine lkC_out ?_ | refine And.intro (by omega) ?_ | fail)
  · rintro k ρ h1 ⟨i, hki, g0, g1, g5, rfl⟩
    repeat (first | (simp (maxSteps := 1000000) only [↓reduceIte, go_sem, e1, g0, g1, g5]) | (simp (maxSteps := 1000000) (disch := first | omega | assumption) only [BB, e1, g0, g1, g5]) | with_reducible refine Gst.now ?_ | with_reducible refine vawp_draw mixed (by kernel_rfl) ?_ | with_reducible first | refine lwV_out ?_ | refine lwV_out0 ?_ | refine lkC_out ?_ | refine And.intro (by omega) ?_ | fail)
    split
    · have hi : i < xs.length := by omega
      have hi2 : i < ys.length := by omega
      have hei : (xs.getD i default).bs = (ys.getD i default).bs := by
        have := congrArg (fun l : List (List Nat) => l[i]?) he
        simp only [List.getElem?_map, List.getElem?_eq_getElem hi, List.getElem?_eq_getElem hi2, Option.map_some, Option.some.injEq] at this
        rw [List.getD_eq_getElem?_getD, List.getD_eq_getElem?_getD, List.getElem?_eq_getElem hi, List.getElem?_eq_getElem hi2]
        exact this
      have hxi := hx _ (getD_mem hi)
      repeat (first | (simp (maxSteps := 1000000) only [↓reduceIte, go_sem, e1, g0, g1, g5]) | (simp (maxSteps := 1000000) (disch := first | omega | assumption) only [BB, e1, g0, g1, g5]) | with_reducible refine Gst.now ?_ | with_reducible refine vawp_draw mixed (by kernel_rfl) ?_ | with_reducible first | refine lwV_out ?_ | refine lwV_out0 ?_ | refine lkC_out ?_ | refine And.intro (by omega) ?_ | fail)
      with_reducible refine call_ok ?_
      refine same_t hei rfl rfl hxi ?_
      repeat (first | (simp (maxSteps := 1000000) only [↓reduceIte, go_sem, e1, g0, g1, g5]) | (simp (maxSteps := 1000000) (disch := first | omega | assumption) only [BB, e1, g0, g1, g5]) | with_reducible refine Gst.now ?_ | with_reducible refine vawp_draw mixed (by kernel_rfl) ?_ | with_reducible first | refine lwV_out ?_ | refine lwV_out0 ?_ | refine lkC_out ?_ | refine And.intro (by omega) ?_ | fail)
      refine ⟨k - 1, by omega, i + 1, by omega, ?_⟩
      repeat (first | (simp (maxSteps := 1000000) only [↓reduceIte, go_sem, e1, g0, g1, g5]) | (simp (maxSteps := 1000000) (disch := first | omega | assumption) only [BB, e1, g0, g1, g5]) | with_reducible refine Gst.now ?_ | with_reducible refine vawp_draw mixed (by kernel_rfl) ?_ | with_reducible first | refine lwV_out ?_ | refine lwV_out0 ?_ | refine lkC_out ?_ | refine And.intro (by omega) ?_ | fail)
    · repeat (first | (simp (maxSteps := 1000000) only [↓reduceIte, go_sem, e1, g0, g1, g5]) | (simp (maxSteps := 1000000) (disch := first | omega | assumption) only [BB, e1, g0, g1, g5]) | with_reducible refine Gst.now ?_ | with_reducible refine vawp_draw mixed (by kernel_rfl) ?_ | with_reducible first | refine lwV_out ?_ | refine lwV_out0 ?_ | refine lkC_out ?_ | refine And.intro (by omega) ?_ | fail)
      refine hq _ _ ?_
      repeat (first | (simp (maxSteps := 1000000) only [↓reduceIte, go_sem, e1, g0, g1, g5]) | (simp (maxSteps := 1000000) (disch := first | omega | assumption) only [BB, e1, g0, g1, g5]) | with_reducible refine Gst.now ?_ | with_reducible refine vawp_draw mixed (by kernel_rfl) ?_ | with_reducible first | refine lwV_out ?_ | refine lwV_out0 ?_ | refine lkC_out ?_ | refine And.intro (by omega) ?_ | fail)
      exact .now hK
/-- The same slots? -/
def sameS (a b : SlotV) : Bool := a.there == b.there && (!a.there || decide (a.row.bs = b.row.bs))
def sameT : List SlotV → List SlotV → Bool
  | [], [] => true
  | a :: xs, b :: ys => sameS a b && sameT xs ys
  | _, _ => false
theorem sameT_ne : ∀ (xs ys : List SlotV), xs.length ≠ ys.length → sameT xs ys = false
  | [], [], h => absurd rfl h
  | [], _ :: _, _ => rfl
  | _ :: _, [], _ => rfl
  | a :: xs, b :: ys, h => by rw [sameT, sameT_ne xs ys (fun e => h (by simp [e])), Bool.and_false]
theorem clos_v {a b : SlotV} (ha : a.row.bs.length ≤ 140737488355328) (hb : b.row.bs.length ≤ 140737488355328) (hK : K (.sc (.bool (sameS a b))) h) : VC Try.prog GL (n + 2) 25 [.agg (slotC a), .agg (slotC b)] h K := by
  refine VC_go Try.func25 rfl (by decide) Try.ntmps25 Try.results25 rfl fun Q hq hn => ?_
  obtain ⟨at_, ar⟩ := a
  obtain ⟨bt, br⟩ := b
  unfold sameS at hK
  simp only at *
  repeat (first | (simp (maxSteps := 1000000) only [↓reduceIte, go_sem]) | (simp (maxSteps := 1000000) (disch := first | omega | assumption) only [BB]) | with_reducible refine vawp_draw mixed (by kernel_rfl) ?_ | with_reducible first | refine lwV_out ?_ | refine lwV_out0 ?_ | refine lkC_out ?_ | refine And.intro (by omega) ?_ | fail)
  intro j hj
  try simp (disch := first | omega | assumption) only [go_sem, hset_none, hdel_none] at hj
  try simp (disch := first | omega | assumption) only [hset_none, hdel_none] at hj
  repeat (first | (simp (maxSteps := 1000000) only [↓reduceIte, go_sem]) | (simp (maxSteps := 1000000) (disch := first | omega | assumption) only [BB]) | with_reducible refine vawp_draw mixed (by kernel_rfl) ?_ | with_reducible first | refine lwV_out ?_ | refine lwV_out0 ?_ | refine lkC_out ?_ | refine And.intro (by omega) ?_ | fail)
  intro j2 hj2
  try simp (disch := first | omega | assumption) only [go_sem, hset_none, hdel_none] at hj2
  try simp (disch := first | omega | assumption) only [hset_none, hdel_none] at hj2
  repeat (first | (simp (maxSteps := 1000000) only [↓reduceIte, go_sem]) | (simp (maxSteps := 1000000) (disch := first | omega | assumption) only [BB]) | with_reducible refine vawp_draw mixed (by kernel_rfl) ?_ | with_reducible first | refine lwV_out ?_ | refine lwV_out0 ?_ | refine lkC_out ?_ | refine And.intro (by omega) ?_ | fail)
  refine .now ?_
  cases at_ <;> cases bt
  · repeat (first | (simp (maxSteps := 1000000) only [↓reduceIte, go_sem]) | (simp (maxSteps := 1000000) (disch := first | omega | assumption) only [BB]) | with_reducible refine Gst.now ?_ | with_reducible refine vawp_draw mixed (by kernel_rfl) ?_ | with_reducible first | refine lwV_out ?_ | refine lwV_out0 ?_ | refine lkC_out ?_ | refine And.intro (by omega) ?_ | fail)
    refine hq _ _ ?_
    repeat (first | (simp (maxSteps := 1000000) only [↓reduceIte, go_sem]) | (simp (maxSteps := 1000000) (disch := first | omega | assumption) only [BB]) | with_reducible refine Gst.now ?_ | with_reducible refine vawp_draw mixed (by kernel_rfl) ?_ | with_reducible first | refine lwV_out ?_ | refine lwV_out0 ?_ | refine lkC_out ?_ | refine And.intro (by omega) ?_ | fail)
    refine .drop j2 (.drop j ?_)
    refine FrK.now (hcast (hK) ?_)
    first | rfl | (funext i; simp only [hset, hdel]; repeat' split) <;> (first | rfl | (subst_vars; simp_all [hset, hdel]; done) | (subst_vars; exfalso; simp_all [hset, hdel]; done))
  · repeat (first | (simp (maxSteps := 1000000) only [↓reduceIte, go_sem]) | (simp (maxSteps := 1000000) (disch := first | omega | assumption) only [BB]) | with_reducible refine Gst.now ?_ | with_reducible refine vawp_draw mixed (by kernel_rfl) ?_ | with_reducible first | refine lwV_out ?_ | refine lwV_out0 ?_ | refine lkC_out ?_ | refine And.intro (by omega) ?_ | fail)
    refine hq _ _ ?_
    repeat (first | (simp (maxSteps := 1000000) only [↓reduceIte, go_sem]) | (simp (maxSteps := 1000000) (disch := first | omega | assumption) only [BB]) | with_reducible refine Gst.now ?_ | with_reducible refine vawp_draw mixed (by kernel_rfl) ?_ | with_reducible first | refine lwV_out ?_ | refine lwV_out0 ?_ | refine lkC_out ?_ | refine And.intro (by omega) ?_ | fail)
    refine .drop j2 (.drop j ?_)
    refine FrK.now (hcast (hK) ?_)
    first | rfl | (funext i; simp only [hset, hdel]; repeat' split) <;> (first | rfl | (subst_vars; simp_all [hset, hdel]; done) | (subst_vars; exfalso; simp_all [hset, hdel]; done))
  · repeat (first | (simp (maxSteps := 1000000) only [↓reduceIte, go_sem]) | (simp (maxSteps := 1000000) (disch := first | omega | assumption) only [BB]) | with_reducible refine Gst.now ?_ | with_reducible refine vawp_draw mixed (by kernel_rfl) ?_ | with_reducible first | refine lwV_out ?_ | refine lwV_out0 ?_ | refine lkC_out ?_ | refine And.intro (by omega) ?_ | fail)
    refine hq _ _ ?_
    repeat (first | (simp (maxSteps := 1000000) only [↓reduceIte, go_sem]) | (simp (maxSteps := 1000000) (disch := first | omega | assumption) only [BB]) | with_reducible refine Gst.now ?_ | with_reducible refine vawp_draw mixed (by kernel_rfl) ?_ | with_reducible first | refine lwV_out ?_ | refine lwV_out0 ?_ | refine lkC_out ?_ | refine And.intro (by omega) ?_ | fail)
    refine .drop j2 (.drop j ?_)
    refine FrK.now (hcast (hK) ?_)
    first | rfl | (funext i; simp only [hset, hdel]; repeat' split) <;> (first | rfl | (subst_vars; simp_all [hset, hdel]; done) | (subst_vars; exfalso; simp_all [hset, hdel]; done))
  · repeat (first | (simp (maxSteps := 1000000) only [↓reduceIte, go_sem]) | (simp (maxSteps := 1000000) (disch := first | omega | assumption) only [BB]) | with_reducible refine Gst.now ?_ | with_reducible refine vawp_draw mixed (by kernel_rfl) ?_ | with_reducible first | refine lwV_out ?_ | refine lwV_out0 ?_ | refine lkC_out ?_ | refine And.intro (by omega) ?_ | fail)
    with_reducible refine call_ok ?_
    refine equal_v rfl rfl ha hb ?_
    repeat (first | (simp (maxSteps := 1000000) only [↓reduceIte, go_sem]) | (simp (maxSteps := 1000000) (disch := first | omega | assumption) only [BB]) | with_reducible refine Gst.now ?_ | with_reducible refine vawp_draw mixed (by kernel_rfl) ?_ | with_reducible first | refine lwV_out ?_ | refine lwV_out0 ?_ | refine lkC_out ?_ | refine And.intro (by omega) ?_ | fail)
    refine hq _ _ ?_
    repeat (first | (simp (maxSteps := 1000000) only [↓reduceIte, go_sem]) | (simp (maxSteps := 1000000) (disch := first | omega | assumption) only [BB]) | with_reducible refine Gst.now ?_ | with_reducible refine vawp_draw mixed (by kernel_rfl) ?_ | with_reducible first | refine lwV_out ?_ | refine lwV_out0 ?_ | refine lkC_out ?_ | refine And.intro (by omega) ?_ | fail)
    refine .drop j2 (.drop j ?_)
    refine FrK.now (hcast (hK) ?_)
    first | rfl | (funext i; simp only [hset, hdel]; repeat' split) <;> (first | rfl | (subst_vars; simp_all [hset, hdel]; done) | (subst_vars; exfalso; simp_all [hset, hdel]; done))
theorem equalF_v {nl nl2 : Bool} {l l2 : Nat} {xs ys : List SlotV} (hl : l = xs.length) (hl2 : l2 = ys.length) (hb : xs.length ≤ 140737488355328) (hb2 : ys.length ≤ 140737488355328) (hx : ∀ s ∈ xs, s.row.bs.length ≤ 140737488355328) (hy : ∀ s ∈ ys, s.row.bs.length ≤ 140737488355328) (hK : K (.sc (.bool (sameT xs ys))) h) : VC Try.prog GL (n + 3) 24 [.isl nl l (xs.flatMap slotC), .isl nl2 l2 (ys.flatMap slotC), .fn (.func 25) [] []] h K := by
  refine VC_go Try.func24 rfl (by decide) Try.ntmps24 Try.results24 rfl fun Q hq hn => ?_
  subst hl hl2
  by_cases hll : xs.length = ys.length
  · have e1 := eq_true hll
    repeat (first | (simp (maxSteps := 1000000) only [↓reduceIte, go_sem, e1]) | (simp (maxSteps := 1000000) (disch := first | omega | assumption) only [BB, e1]) | with_reducible refine Gst.now ?_ | with_reducible refine vawp_draw mixed (by kernel_rfl) ?_ | with_reducible first | refine lwV_out ?_ | refine lwV_out0 ?_ | refine lkC_out ?_ | refine And.intro (by omega) ?_ | fail)
    refine vawp_loop (k := xs.length) (fun k ρ h1 => ∃ i : Nat, k + i = xs.length ∧ ρ 0 = .isl nl xs.length (xs.flatMap slotC) ∧ ρ 15 = .isl nl xs.length (xs.flatMap slotC) ∧ ρ 1 = .isl nl2 ys.length (ys.flatMap slotC) ∧ ρ 2 = .fn (.func 25) [] [] ∧ ρ 16 = (.sc (.int .i64 (xs.length))) ∧ ρ 17 = (.sc (.int .i64 (i))) ∧ sameT xs ys = sameT (xs.drop i) (ys.drop i) ∧ h1 = h) ?_ ?_
    · refine ⟨0, by omega, ?_⟩
      repeat (first | (simp (maxSteps := 1000000) only [↓reduceIte, go_sem, e1]) | (simp (maxSteps := 1000000) (disch := first | omega | assumption) only [BB, e1]) | with_reducible refine Gst.now ?_ | with_reducible refine vawp_draw mixed (by kernel_rfl) ?_ | with_reducible first | refine lwV_out ?_ | refine lwV_out0 ?_ | refine lkC_out ?_ | refine And.intro (by omega) ?_ | fail)
    · rintro k ρ h1 ⟨i, hki, g0, g15, g1, g2, g16, g17, hs, rfl⟩
      repeat (first | (simp (maxSteps := 1000000) only [↓reduceIte, go_sem, e1, g0, g15, g1, g2, g16, g17]) | (simp (maxSteps := 1000000) (disch := first | omega | assumption) only [BB, e1, g0, g15, g1, g2, g16, g17]) | with_reducible refine Gst.now ?_ | with_reducible refine vawp_draw mixed (by kernel_rfl) ?_ | with_reducible first | refine lwV_out ?_ | refine lwV_out0 ?_ | refine lkC_out ?_ | refine And.intro (by omega) ?_ | fail)
      split
      · have hi : i < xs.length := by omega
        have hi2 : i < ys.length := by omega
        have e2 := slot_at xs i hi
        have e3 := slot_at ys i hi2
        have hxi := hx _ (getD_mem hi)
        have hyi := hy _ (getD_mem hi2)
        rw [drop_consD hi, drop_consD hi2, sameT] at hs
        generalize xs.getD i default = a at *
        generalize ys.getD i default = b at *
        repeat (first | (simp (maxSteps := 1000000) only [↓reduceIte, go_sem, e1, g0, g15, g1, g2, g16, g17, e2, e3]) | (simp (maxSteps := 1000000) (disch := first | omega | assumption) only [BB, e1, g0, g15, g1, g2, g16, g17, e2, e3]) | with_reducible refine Gst.now ?_ | with_reducible refine vawp_draw mixed (by kernel_rfl) ?_ | with_reducible first | refine lwV_out ?_ | refine lwV_out0 ?_ | refine lkC_out ?_ | refine And.intro (by omega) ?_ | fail)
        intro j hj
        try simp (disch := first | omega | assumption) only [go_sem, hset_none, hdel_none] at hj
        try simp (disch := first | omega | assumption) only [hset_none, hdel_none] at hj
        repeat (first | (simp (maxSteps := 1000000) only [↓reduceIte, go_sem, e1, g0, g15, g1, g2, g16, g17, e2, e3]) | (simp (maxSteps := 1000000) (disch := first | omega | assumption) only [BB, e1, g0, g15, g1, g2, g16, g17, e2, e3]) | with_reducible refine Gst.now ?_ | with_reducible refine vawp_draw mixed (by kernel_rfl) ?_ | with_reducible first | refine lwV_out ?_ | refine lwV_out0 ?_ | refine lkC_out ?_ | refine And.intro (by omega) ?_ | fail)
        intro j2 hj2
        try simp (disch := first | omega | assumption) only [go_sem, hset_none, hdel_none] at hj2
        try simp (disch := first | omega | assumption) only [hset_none, hdel_none] at hj2
        repeat (first | (simp (maxSteps := 1000000) only [↓reduceIte, go_sem, e1, g0, g15, g1, g2, g16, g17, e2, e3]) | (simp (maxSteps := 1000000) (disch := first | omega | assumption) only [BB, e1, g0, g15, g1, g2, g16, g17, e2, e3]) | with_reducible refine Gst.now ?_ | with_reducible refine vawp_draw mixed (by kernel_rfl) ?_ | with_reducible first | refine lwV_out ?_ | refine lwV_out0 ?_ | refine lkC_out ?_ | refine And.intro (by omega) ?_ | fail)
        with_reducible refine call_ok ?_
        refine clos_v hxi hyi ?_
        repeat (first | (simp (maxSteps := 1000000) only [↓reduceIte, go_sem, e1, g0, g15, g1, g2, g16, g17, e2, e3]) | (simp (maxSteps := 1000000) (disch := first | omega | assumption) only [BB, e1, g0, g15, g1, g2, g16, g17, e2, e3]) | with_reducible refine vawp_draw mixed (by kernel_rfl) ?_ | with_reducible first | refine lwV_out ?_ | refine lwV_out0 ?_ | refine lkC_out ?_ | refine And.intro (by omega) ?_ | fail)
        refine .drop j2 (.drop j ?_)
        rw [hdel_hset ((hset_ne _ _ hj2.1).trans hj2.2), hdel_hset hj]
        refine .now ?_
        cases hab : sameS a b with
        | true =>
          rw [hab, Bool.true_and] at hs
          repeat (first | (simp (maxSteps := 1000000) only [↓reduceIte, go_sem, e1, g0, g15, g1, g2, g16, g17, e2, e3]) | (simp (maxSteps := 1000000) (disch := first | omega | assumption) only [BB, e1, g0, g15, g1, g2, g16, g17, e2, e3]) | with_reducible refine Gst.now ?_ | with_reducible refine vawp_draw mixed (by kernel_rfl) ?_ | with_reducible first | refine lwV_out ?_ | refine lwV_out0 ?_ | refine lkC_out ?_ | refine And.intro (by omega) ?_ | fail)
          refine ⟨k - 1, by omega, i + 1, by omega, ?_⟩
          repeat (first | (simp (maxSteps := 1000000) only [↓reduceIte, go_sem, e1, g0, g15, g1, g2, g16, g17, e2, e3]) | (simp (maxSteps := 1000000) (disch := first | omega | assumption) only [BB, e1, g0, g15, g1, g2, g16, g17, e2, e3]) | with_reducible refine Gst.now ?_ | with_reducible refine vawp_draw mixed (by kernel_rfl) ?_ | with_reducible first | refine lwV_out ?_ | refine lwV_out0 ?_ | refine lkC_out ?_ | refine And.intro (by omega) ?_ | fail)
          try exact hs
        | false =>
          rw [hab, Bool.false_and] at hs
          rw [hs] at hK
          repeat (first | (simp (maxSteps := 1000000) only [↓reduceIte, go_sem, e1, g0, g15, g1, g2, g16, g17, e2, e3]) | (simp (maxSteps := 1000000) (disch := first | omega | assumption) only [BB, e1, g0, g15, g1, g2, g16, g17, e2, e3]) | with_reducible refine Gst.now ?_ | with_reducible refine vawp_draw mixed (by kernel_rfl) ?_ | with_reducible first | refine lwV_out ?_ | refine lwV_out0 ?_ | refine lkC_out ?_ | refine And.intro (by omega) ?_ | fail)
          refine hq _ _ ?_
          repeat (first | (simp (maxSteps := 1000000) only [↓reduceIte, go_sem, e1, g0, g15, g1, g2, g16, g17, e2, e3]) | (simp (maxSteps := 1000000) (disch := first | omega | assumption) only [BB, e1, g0, g15, g1, g2, g16, g17, e2, e3]) | with_reducible refine Gst.now ?_ | with_reducible refine vawp_draw mixed (by kernel_rfl) ?_ | with_reducible first | refine lwV_out ?_ | refine lwV_out0 ?_ | refine lkC_out ?_ | refine And.intro (by omega) ?_ | fail)
          exact .now hK
      · have hi : i = xs.length := by omega
        subst hi
        rw [List.drop_length, hll, List.drop_length, sameT] at hs
        rw [hs] at hK
        repeat (first | (simp (maxSteps := 1000000) only [↓reduceIte, go_sem, e1, g0, g15, g1, g2, g16, g17]) | (simp (maxSteps := 1000000) (disch := first | omega | assumption) only [BB, e1, g0, g15, g1, g2, g16, g17]) | with_reducible refine Gst.now ?_ | with_reducible refine vawp_draw mixed (by kernel_rfl) ?_ | with_reducible first | refine lwV_out ?_ | refine lwV_out0 ?_ | refine lkC_out ?_ | refine And.intro (by omega) ?_ | fail)
        refine hq _ _ ?_
        repeat (first | (simp (maxSteps := 1000000) only [↓reduceIte, go_sem, e1, g0, g15, g1, g2, g16, g17]) | (simp (maxSteps := 1000000) (disch := first | omega | assumption) only [BB, e1, g0, g15, g1, g2, g16, g17]) | with_reducible refine Gst.now ?_ | with_reducible refine vawp_draw mixed (by kernel_rfl) ?_ | with_reducible first | refine lwV_out ?_ | refine lwV_out0 ?_ | refine lkC_out ?_ | refine And.intro (by omega) ?_ | fail)
        exact .now hK
  · have e1 := eq_false hll
    rw [sameT_ne _ _ hll] at hK
    repeat (first | (simp (maxSteps := 1000000) only [↓reduceIte, go_sem, e1]) | (simp (maxSteps := 1000000) (disch := first | omega | assumption) only [BB, e1]) | with_reducible refine Gst.now ?_ | with_reducible refine vawp_draw mixed (by kernel_rfl) ?_ | with_reducible first | refine lwV_out ?_ | refine lwV_out0 ?_ | refine lkC_out ?_ | refine And.intro (by omega) ?_ | fail)
    refine hq _ _ ?_
    repeat (first | (simp (maxSteps := 1000000) only [↓reduceIte, go_sem, e1]) | (simp (maxSteps := 1000000) (disch := first | omega | assumption) only [BB, e1]) | with_reducible refine Gst.now ?_ | with_reducible refine vawp_draw mixed (by kernel_rfl) ?_ | with_reducible first | refine lwV_out ?_ | refine lwV_out0 ?_ | refine lkC_out ?_ | refine And.intro (by omega) ?_ | fail)
    exact .now hK
theorem volSame_v {nl nl2 : Bool} {l l2 : Nat} {xs ys : List SlotV} (hl : l = xs.length) (hl2 : l2 = ys.length) (hb : xs.length ≤ 140737488355328) (hb2 : ys.length ≤ 140737488355328) (hx : ∀ s ∈ xs, s.row.bs.length ≤ 140737488355328) (hy : ∀ s ∈ ys, s.row.bs.length ≤ 140737488355328) (hK : K (.sc (.bool (sameT xs ys))) h) : VC Try.prog GL (n + 4) 13 [.isl nl l (xs.flatMap slotC), .isl nl2 l2 (ys.flatMap slotC)] h K := by
  refine VC_go Try.func13 rfl (by decide) Try.ntmps13 Try.results13 rfl fun Q hq hn => ?_
  repeat (first | (simp (maxSteps := 1000000) only [↓reduceIte, go_sem]) | (simp (maxSteps := 1000000) (disch := first | omega | assumption) only [BB]) | with_reducible refine Gst.now ?_ | with_reducible refine vawp_draw mixed (by kernel_rfl) ?_ | with_reducible first | refine lwV_out ?_ | refine lwV_out0 ?_ | refine lkC_out ?_ | refine And.intro (by omega) ?_ | fail)
  with_reducible refine call_ok ?_
  refine equalF_v hl hl2 hb hb2 hx hy ?_
  repeat (first | (simp (maxSteps := 1000000) only [↓reduceIte, go_sem]) | (simp (maxSteps := 1000000) (disch := first | omega | assumption) only [BB]) | with_reducible refine Gst.now ?_ | with_reducible refine vawp_draw mixed (by kernel_rfl) ?_ | with_reducible first | refine lwV_out ?_ | refine lwV_out0 ?_ | refine lkC_out ?_ | refine And.intro (by omega) ?_ | fail)
  refine hq _ _ ?_
  repeat (first | (simp (maxSteps := 1000000) only [↓reduceIte, go_sem]) | (simp (maxSteps := 1000000) (disch := first | omega | assumption) only [BB]) | with_reducible refine Gst.now ?_ | with_reducible refine vawp_draw mixed (by kernel_rfl) ?_ | with_reducible first | refine lwV_out ?_ | refine lwV_out0 ?_ | refine lkC_out ?_ | refine And.intro (by omega) ?_ | fail)
  exact .now hK
end
end Go.Proofs.Ytgdhfabiljgdpaa.VSlots2
