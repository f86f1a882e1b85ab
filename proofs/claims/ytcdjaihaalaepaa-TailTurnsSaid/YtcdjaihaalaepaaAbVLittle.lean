/- package little over the machine of values. -/
import Derived.Test.YtcdjaihaalaepaaProg
import Derived.Test.YtcdjaihaalaepaaAbV14
import Derived.Test.YtcdjaihaalaepaaAbFacts
import Derived.Test.YtcdjaihaalaepaaAbLittleM
import Derived.KernelRfl
import Derived.Laws.BitsAllLaws
set_option linter.unusedVariables false
set_option linter.unusedSimpArgs false
set_option maxRecDepth 100000
set_option maxHeartbeats 4000000
namespace Go.Proofs.Ytcdjaihaalaepaa.VLittle
open Go.RowKit Go.Proofs.AbM Go.Proofs.Ytcdjaihaalaepaa.Facts Go.Proofs.Ytcdjaihaalaepaa.LittleM
attribute [local go_sem] vawp_skip_eq vawp_seq_eq vawp_region_eq vawp_cond_g vawp_block_eq vawp_exit_eq vawp_ret_eq thenV_ret thenV_exit thenV_normal inBlockV_normal inBlockV_ret inBlockV_exit resKV_nil resKV_tmp resKV_cell oneV_one oneV_nil oneV_more initV_nil initV_cons updV_at evv_tmp evv_func evv_global evv_int evv_bool evv_str evv_snil evv_pnil evv_agg ofV3_int ofV3_bool ofV3_str ofV3_snil ofV3_pnil vok_tmp vok_func vok_global vok_int vok_bool vok_str vok_snil vok_pnil vok_agg cloV3_int cloV3_bool cloV3_str cloV3_snil cloV3_pnil voks_nil voks_cons scV_int scV_bool scV_str isBlV_b isBV_t isBV_f lwV_none lwV_sc lwV_agg lwV_tup lwV_isl lwV_own lwV_op lwV_ip lwV_fn lwV_junk vops_nil vops_n vops_s gsN_eq vop dstOk_some dstOk_none pkV_b blkV_set eRead_f eRead_t vLoad_op vLoad_ip vStore_op cells_sc cells_isl cells_own cells_op cells_ip cells_fn cells_agg parts_sc parts_isl parts_own parts_op parts_ip parts_fn parts_agg one_sc one_isl one_own one_op one_ip one_fn vField_op vField_ip ePart_f ePart_t vFieldV_agg vIx_isl vIx_own vIx_op vIx_ip vIxV_agg vIxV_str vLen_str vLen_isl vLen_own vLen_agg bndE_none bndE_int vSlice_isl vSlice_str vBin_add vBin_sub vBin_mul vBin_quo vBin_rem vBin_and vBin_or vBin_xor vBin_andNot vBin_eql vBin_neq vBin_lss vBin_leq vBin_gtr vBin_geq vBin_shr_i8 vBin_shl_i8 vBin_shr_i16 vBin_shl_i16 vBin_shr_i32 vBin_shl_i32 vBin_shr_i64 vBin_shl_i64 vBin_shr_u8 vBin_shl_u8 vBin_shr_u16 vBin_shl_u16 vBin_shr_u32 vBin_shl_u32 vBin_shr_u64 vBin_shl_u64 vBin_seq vBin_sne vBin_isln vBin_opn vBin_ipn ex_sc ex_sc2 ex_sc3 ex_tup calleeV wSc_pb wSc_pi wSc_not wSc_neg wSc_com wSc_min2 wSc_max2 vfold_nil vfold_one vfold_cons vfill_nil vfill_e eFill_s vBuild vBox vAlloc setV_map setV_zs setV_zn setV_s hset_hset eConv_ss vConv_e iv_eq ivI_eq ex_get ex_getI set_iv set_ivI okNil isNilV isSlV hdel_at hset_at List.map_toArray List.map_cons List.map_nil List.nil_append List.cons_append List.append_nil List.toList_toArray List.getElem?_toArray List.getElem_toArray List.getElem_cons_zero List.getElem_cons_succ List.getElem?_cons_zero List.getElem?_cons_succ List.set_cons_zero List.set_cons_succ List.set_set List.length_cons List.length_nil List.length_set List.length_map List.all_cons List.all_nil List.drop_zero List.drop_succ_cons List.take_succ_cons List.take_zero List.flatMap_cons Bool.and_eq_true true_and and_true if_true if_false ite_true ite_false forall_eq' forall_eq exists_eq_left exists_eq_left' exists_eq' Value.bool.injEq Value.int.injEq Value.string.injEq Value.pointer.injEq Option.some.injEq AV.sc.injEq AV.op.injEq AV.ip.injEq AV.own.injEq AV.agg.injEq VB.cells.injEq VB.iter.injEq Prod.mk.injEq decide_eq_true_eq decide_eq_false_iff_not Nat.reduceEqDiff Nat.reduceLT Nat.reduceLeDiff Nat.reduceSub Nat.reduceBEq reduceIte Int.reduceLE Int.reduceLT Int.reduceToNat Int.reduceNeg Int.reduceEq Int.reduceNe Int.cast_ofNat_Int Nat.reduceMul Nat.reduceAdd Nat.reduceDiv Nat.reduceMod Nat.reducePow Int.reduceSub Int.reduceAdd Int.reduceMul Int.reducePow Option.isSome_some Option.isSome_none Option.bind_some Option.map_some Option.map_none Option.toList_some Option.toList_none true_or or_true or_false false_or Bool.not_true Bool.not_false Bool.not_eq_true Bool.false_eq_true Bool.not_not false_implies true_implies implies_true Nat.zero_add Nat.add_zero Nat.mul_one Bool.not_eq_true' Bool.true_eq_false Bool.and_true Bool.true_and Bool.and_false Bool.false_and Bool.or_true Bool.true_or Bool.or_false Bool.false_or Option.isNone_some Option.isNone_none Int.reduceBEq Int.reduceBNe beq_self_eq_true bne_self_eq_false beq_iff_eq not_false_eq_true not_true_eq_false Decidable.not_not bne_iff_ne ne_eq Int.toNat_natCast gt_lt ge_le c_add c_mul c_sub c_addn c_nadd c_muln c_nmul c_subn c_nsub c_divn c_modn c_div c_mod c_tdivn c_tmodn c_tdiv c_tmod c_pow c_nn c_beq c_beqn c_bne c_bnen wr64 wr32 wru64 wru32 wru16 wru8 c_if c_if1 c_if2 c_lt c_le c_eq c_ltn c_len c_nlt c_nle c_eqn m_drop m_take Nat.add_sub_cancel_left Nat.add_sub_cancel Int.reduceTMod Int.reduceTDiv Int.reduceMod Int.reduceDiv isC_some hset_ne hdel_ne hdel_hset hdel_hset_ne blkV_nset blkV_ndel hset_hdel gV_t gV_f isGdV_b isGdV_u isBV_u isGdV_g isBV_gt isBV_gf decide_true decide_false Bool.or_eq_false_iff eq_self Nat.lt_irrefl Int.lt_irrefl Nat.le_refl Int.le_refl
attribute [local go_sem high] vops_pk vops_mv vops_as vops_smv pk_and pk_or pk_gand pk_gor pk_orn pk_gorn
attribute [local go_sem] ag3 sz3 zc3 ik3 ag4 sz4 zc4 ag5 sz5 zc5 ik5 ag9 sz9 zc9 iq9 ag22 sz22 zc22 ik22 ag23 sz23 zc23 ik23 ag25 sz25 zc25 eqs25 nes25 bo25 ag27 sz27 zc27 eqs27 nes27 bo27 ag29 sz29 el29 zc29 is29 ag33 sz33 zc33 ik33 ag41 sz41 zc41 ag45 sz45 zc45 bo45 ag47 sz47 el47 zc47 is47 ag48 sz48 el48 zc48 is48 ag52 sz52 el52 zc52 is52 ag56 sz56 el56 zc56 is56 ag59 sz59 zc59 pt59 ag63 sz63 zc63 bo63 of25_0 fd25_0 of25_1 fd25_1 of25_2 fd25_2 of25_3 fd25_3 of25_4 fd25_4 of25_5 fd25_5 of25_6 fd25_6 of25_7 fd25_7 of25_8 fd25_8 of27_0 fd27_0 of27_1 fd27_1 of27_2 fd27_2 of27_3 fd27_3 of27_4 fd27_4 of27_5 fd27_5 of27_6 fd27_6 of27_7 fd27_7 of27_8 fd27_8 of45_0 fd45_0 of45_1 fd45_1 of63_0 fd63_0 of63_1 fd63_1 of63_2 fd63_2 eqb neb
def GL : Nat → AV := fun _ => .junk
section
variable {n : Nat} {h : VH} {K : AV → VH → Prop}
def hs8 (n : Int) : Nat := min n.toNat 8
theorem hs8_le (n : Int) : hs8 n ≤ 8 := by unfold hs8; omega
theorem hs8_eq (a : Int) : (if 8 < (if a < 0 then 0 else a) then 8 else (if a < 0 then 0 else a)) = (hs8 a : Int) := by unfold hs8; split <;> split at * <;> omega
theorem lheld_v {a : Int} (hK : K (.sc (.int .i64 (hs8 a : Nat))) h) : VC Try.prog GL (n + 1) 36 [(.sc (.int .i64 (a)))] h K := by
  refine VC_go Try.func36 rfl (by decide) Try.ntmps36 Try.results36 rfl fun Q hq hn => ?_
  repeat (first | (simp (maxSteps := 1000000) only [↓reduceIte, go_sem]) | (simp (maxSteps := 1000000) (disch := first | omega | assumption) only [BB]) | with_reducible refine Gst.now ?_ | with_reducible refine vawp_draw mixed (by kernel_rfl) ?_ | with_reducible first | refine lwV_out ?_ | refine lwV_out0 ?_ | refine lkC_out ?_ | refine And.intro (by omega) ?_ | fail)
  refine hq _ _ ?_
  repeat (first | (simp (maxSteps := 1000000) only [↓reduceIte, go_sem]) | (simp (maxSteps := 1000000) (disch := first | omega | assumption) only [BB]) | with_reducible refine Gst.now ?_ | with_reducible refine vawp_draw mixed (by kernel_rfl) ?_ | with_reducible first | refine lwV_out ?_ | refine lwV_out0 ?_ | refine lkC_out ?_ | refine And.intro (by omega) ?_ | fail)
  rw [hs8_eq]
  exact .now hK
theorem lput_v {x : Nat} {s : Int} (hx : x < 18446744073709551616) (hK : ∀ j nl, h j = none → (nl = true → hs8 s = 0) → FrK K (.own j 0 (hs8 s)) (hset h j (.cells 5 nl ((leB (hs8 s) x).map (iv .u8))))) : VC Try.prog GL (n + 2) 30 [(.sc (.int .u64 (x))), (.sc (.int .i64 (s)))] h K := by
  refine VC_go Try.func30 rfl (by decide) Try.ntmps30 Try.results30 rfl fun Q hq hn => ?_
  repeat (first | (simp (maxSteps := 1000000) only [↓reduceIte, go_sem]) | (simp (maxSteps := 1000000) (disch := first | omega | assumption) only [BB]) | with_reducible refine Gst.now ?_ | with_reducible refine vawp_draw mixed (by kernel_rfl) ?_ | with_reducible first | refine lwV_out ?_ | refine lwV_out0 ?_ | refine lkC_out ?_ | refine And.intro (by omega) ?_ | fail)
  with_reducible refine call_ok ?_
  refine lheld_v ?_
  have hs := hs8_le s
  generalize hs8 s = N at *
  repeat (first | (simp (maxSteps := 1000000) only [↓reduceIte, go_sem]) | (simp (maxSteps := 1000000) (disch := first | omega | assumption) only [BB]) | with_reducible refine vawp_draw mixed (by kernel_rfl) ?_ | with_reducible first | refine lwV_out ?_ | refine lwV_out0 ?_ | refine lkC_out ?_ | refine And.intro (by omega) ?_ | fail)
  refine .mat 5 5 ?_ ?_
  · repeat (first | (simp (maxSteps := 1000000) only [↓reduceIte, go_sem]) | (simp (maxSteps := 1000000) (disch := first | omega | assumption) only [BB]) | with_reducible refine Gst.now ?_ | with_reducible refine vawp_draw mixed (by kernel_rfl) ?_ | with_reducible first | refine lwV_out ?_ | refine lwV_out0 ?_ | refine lkC_out ?_ | refine And.intro (by omega) ?_ | fail)
  · intro j0 hj0
    repeat (first | (simp (maxSteps := 1000000) only [↓reduceIte, go_sem]) | (simp (maxSteps := 1000000) (disch := first | omega | assumption) only [BB]) | with_reducible refine Gst.now ?_ | with_reducible refine vawp_draw mixed (by kernel_rfl) ?_ | with_reducible first | refine lwV_out ?_ | refine lwV_out0 ?_ | refine lkC_out ?_ | refine And.intro (by omega) ?_ | fail)
    refine vawp_loop (k := N) (fun k ρ h1 => ∃ i : Nat, k + i = N ∧ ρ 0 = (.sc (.int .u64 ((x / 256 ^ i : Nat)))) ∧ ρ 7 = (.sc (.int .i64 (N))) ∧ ρ 8 = (.sc (.int .i64 (i))) ∧ ∃ j nl, h j = none ∧ (nl = true → i = 0) ∧ ρ 5 = .own j 0 i ∧ h1 = hset h j (.cells 5 nl ((leB i x).map (iv .u8)))) ?_ ?_
    · refine ⟨0, by omega, ?_⟩
      repeat (first | (simp (maxSteps := 1000000) only [↓reduceIte, go_sem]) | (simp (maxSteps := 1000000) (disch := first | omega | assumption) only [BB]) | with_reducible refine Gst.now ?_ | with_reducible refine vawp_draw mixed (by kernel_rfl) ?_ | with_reducible first | refine lwV_out ?_ | refine lwV_out0 ?_ | refine lkC_out ?_ | refine And.intro (by omega) ?_ | fail)
      exact ⟨j0, true, hj0, rfl, rfl⟩
    · rintro k ρ h1 ⟨i, hki, g0, g7, g8, j, nl, hj, hnl, g5, rfl⟩
      have hxi : x / 256 ^ i < 18446744073709551616 := Nat.lt_of_le_of_lt (Nat.div_le_self _ _) hx
      have hll := leB_len i x
      repeat (first | (simp (maxSteps := 1000000) only [↓reduceIte, go_sem, g0, g5, g7, g8]) | (simp (maxSteps := 1000000) (disch := first | omega | assumption) only [BB, g0, g5, g7, g8]) | with_reducible refine Gst.now ?_ | with_reducible refine vawp_draw mixed (by kernel_rfl) ?_ | with_reducible first | refine lwV_out ?_ | refine lwV_out0 ?_ | refine lkC_out ?_ | refine And.intro (by omega) ?_ | fail)
      split
      · repeat (first | (simp (maxSteps := 1000000) only [↓reduceIte, go_sem, g0, g5, g7, g8]) | (simp (maxSteps := 1000000) (disch := first | omega | assumption) only [BB, g0, g5, g7, g8]) | with_reducible refine Gst.now ?_ | with_reducible refine vawp_draw mixed (by kernel_rfl) ?_ | with_reducible first | refine lwV_out ?_ | refine lwV_out0 ?_ | refine lkC_out ?_ | refine And.intro (by omega) ?_ | fail)
        refine vBuildS_i bs29 ?_ ?_ ?_ ?_ ?_
        rfl
        rfl
        rfl
        rfl
        repeat (first | (simp (maxSteps := 1000000) only [↓reduceIte, go_sem]) | (simp (maxSteps := 1000000) (disch := first | omega | assumption) only [BB]) | with_reducible refine Gst.now ?_ | with_reducible refine vawp_draw mixed (by kernel_rfl) ?_ | with_reducible first | refine lwV_out ?_ | refine lwV_out0 ?_ | refine lkC_out ?_ | refine And.intro (by omega) ?_ | fail)
        apply vApp_own_isl ap29 (by simp only [go_sem])
        case hv => first | (simp [hll]; done) | (simp [hll]; omega)
        case hj => repeat (first | exact hset_at _ _ _ | assumption | refine (hset_ne _ _ (by first | omega | assumption)).trans ?_ | refine (hdel_ne _ (by first | omega | assumption)).trans ?_ | fail)
        case hl => first | (simp [hll]; done) | (simp [hll]; omega)
        case h1 => first | omega | (simp [hll]; omega) | (simp [hll]; done)
        case h2 => first | omega | (simp [hll]; omega) | (simp [hll]; done)
        intro j' hj'
        try simp (disch := first | omega | assumption) only [go_sem, hset_none, hdel_none] at hj'
        try simp (disch := first | omega | assumption) only [hset_none, hdel_none] at hj'
        have ew : IntKind.u8.wrap ((x / 256 ^ i : Nat) : Int) = ((x / 256 ^ i % 256 : Nat) : Int) := by
          rw [IntKind.wrap_u8]; omega
        have e8 : (2 : Nat) ^ 8 = 256 := rfl
        repeat (first | (simp (maxSteps := 1000000) only [↓reduceIte, go_sem, g0, g8]) | (simp (maxSteps := 1000000) (disch := first | omega | assumption) only [BB, g0, g8]) | with_reducible refine Gst.now ?_ | with_reducible refine vawp_draw mixed (by kernel_rfl) ?_ | with_reducible first | refine lwV_out ?_ | refine lwV_out0 ?_ | refine lkC_out ?_ | refine And.intro (by omega) ?_ | fail)
        refine ⟨k - 1, by omega, i + 1, by omega, ?_⟩
        repeat (first | (simp (maxSteps := 1000000) only [↓reduceIte, go_sem, g7]) | (simp (maxSteps := 1000000) (disch := first | omega | assumption) only [BB, g7]) | with_reducible refine Gst.now ?_ | with_reducible refine vawp_draw mixed (by kernel_rfl) ?_ | with_reducible first | refine lwV_out ?_ | refine lwV_out0 ?_ | refine lkC_out ?_ | refine And.intro (by omega) ?_ | fail)
        refine ⟨?_, j', nl && 1 == 0, hj', by simp, by simp, ?_⟩
        · rw [Nat.pow_succ, ← Nat.div_div_eq_div_mul]
        · rw [leB, List.map_append, ew]
          simp [iv]
      · repeat (first | (simp (maxSteps := 1000000) only [↓reduceIte, go_sem, g5]) | (simp (maxSteps := 1000000) (disch := first | omega | assumption) only [BB, g5]) | with_reducible refine Gst.now ?_ | with_reducible refine vawp_draw mixed (by kernel_rfl) ?_ | with_reducible first | refine lwV_out ?_ | refine lwV_out0 ?_ | refine lkC_out ?_ | refine And.intro (by omega) ?_ | fail)
        refine hq _ _ ?_
        repeat (first | (simp (maxSteps := 1000000) only [↓reduceIte, go_sem]) | (simp (maxSteps := 1000000) (disch := first | omega | assumption) only [BB]) | with_reducible refine Gst.now ?_ | with_reducible refine vawp_draw mixed (by kernel_rfl) ?_ | with_reducible first | refine lwV_out ?_ | refine lwV_out0 ?_ | refine lkC_out ?_ | refine And.intro (by omega) ?_ | fail)
        have hi : i = N := by omega
        subst hi
        exact hK j nl hj hnl
theorem lget_v {l : Nat} {nl : Bool} {bs : List Nat} (hl : l = bs.length) (hbl : bs.length ≤ 140737488355328) (hb : IsBy bs) (hK : K (.sc (.int .u64 ((leN (bs.take 8) : Nat)))) h) : VC Try.prog GL (n + 1) 32 [.isl nl l (bs.map (iv .u8))] h K := by
  refine VC_go Try.func32 rfl (by decide) Try.ntmps32 Try.results32 rfl fun Q hq hn => ?_
  subst hl
  repeat (first | (simp (maxSteps := 1000000) only [↓reduceIte, go_sem]) | (simp (maxSteps := 1000000) (disch := first | omega | assumption) only [BB]) | with_reducible refine Gst.now ?_ | with_reducible refine vawp_draw mixed (by kernel_rfl) ?_ | with_reducible first | refine lwV_out ?_ | refine lwV_out0 ?_ | refine lkC_out ?_ | refine And.intro (by omega) ?_ | fail)
  have em : (if 8 < bs.length then 8 else bs.length) = min bs.length 8 := by split <;> omega
  refine vawp_loop (k := min bs.length 8) (fun k ρ h1 => k ≤ min bs.length 8 ∧ ρ 0 = .isl nl bs.length (bs.map (iv .u8)) ∧ ρ 3 = (.sc (.int .u64 ((leN ((bs.take 8).drop k) : Nat)))) ∧ ρ 4 = (.sc (.int .i64 ((k : Int) - 1))) ∧ h1 = h) ?_ ?_
  · repeat (first | (simp (maxSteps := 1000000) only [↓reduceIte, go_sem, em]) | (simp (maxSteps := 1000000) (disch := first | omega | assumption) only [BB, em]) | with_reducible refine Gst.now ?_ | with_reducible refine vawp_draw mixed (by kernel_rfl) ?_ | with_reducible first | refine lwV_out ?_ | refine lwV_out0 ?_ | refine lkC_out ?_ | refine And.intro (by omega) ?_ | fail)
    rw [List.drop_eq_nil_of_le (by rw [List.length_take]; omega)]; rfl
  · rintro k ρ h1 ⟨hk, g0, g3, g4, rfl⟩
    repeat (first | (simp (maxSteps := 1000000) only [↓reduceIte, go_sem, g0, g3, g4]) | (simp (maxSteps := 1000000) (disch := first | omega | assumption) only [BB, g0, g3, g4]) | with_reducible refine Gst.now ?_ | with_reducible refine vawp_draw mixed (by kernel_rfl) ?_ | with_reducible first | refine lwV_out ?_ | refine lwV_out0 ?_ | refine lkC_out ?_ | refine And.intro (by omega) ?_ | fail)
    split
    · obtain ⟨k, rfl⟩ : ∃ k', k = k' + 1 := ⟨k - 1, by omega⟩
      have e0 : ((k + 1 : Nat) : Int) - 1 = (k : Int) := by omega
      rw [e0] at g4
      have hlt := leN_lt ((hb.take 8).drop (k + 1))
      have hle : 256 ^ ((bs.take 8).drop (k + 1)).length ≤ 72057594037927936 := by
        have : 256 ^ ((bs.take 8).drop (k + 1)).length ≤ 256 ^ 7 := Nat.pow_le_pow_right (by omega) (by rw [List.length_drop, List.length_take]; omega)
        exact this
      have e7 : leN ((bs.take 8).drop k) = bs.getD k 0 + 256 * leN ((bs.take 8).drop (k + 1)) := by
        rw [leN_drop (by rw [List.length_take]; omega)]
        congr 1
        rw [List.getD_eq_getElem?_getD, List.getD_eq_getElem?_getD, List.getElem?_take, if_pos (by omega)]
      have hc := hb.getD k
      generalize leN ((bs.take 8).drop (k + 1)) = y at *
      generalize hc' : bs.getD k 0 = c at *
      have e8 := shl_or8 (a := c) (b := y) hc (by omega)
      have e9 : bits .or .u64 ((y * 256 : Nat) : Int) (c : Int) = ((c + 256 * y : Nat) : Int) := by
        rw [← e8]; congr 1; rw [IntKind.wrap_u64]; omega
      repeat (first | (simp (maxSteps := 1000000) only [↓reduceIte, go_sem, g0, g3, g4, e9, hc']) | (simp (maxSteps := 1000000) (disch := first | omega | assumption) only [BB, g0, g3, g4, e9, hc']) | with_reducible refine Gst.now ?_ | with_reducible refine vawp_draw mixed (by kernel_rfl) ?_ | with_reducible first | refine lwV_out ?_ | refine lwV_out0 ?_ | refine lkC_out ?_ | refine And.intro (by omega) ?_ | fail)
      refine ⟨k, by omega, by omega, ?_⟩
      repeat (first | (simp (maxSteps := 1000000) only [↓reduceIte, go_sem, g0]) | (simp (maxSteps := 1000000) (disch := first | omega | assumption) only [BB, g0]) | with_reducible refine Gst.now ?_ | with_reducible refine vawp_draw mixed (by kernel_rfl) ?_ | with_reducible first | refine lwV_out ?_ | refine lwV_out0 ?_ | refine lkC_out ?_ | refine And.intro (by omega) ?_ | fail)
      rw [e7]
    · have hk0 : k = 0 := by omega
      subst hk0
      repeat (first | (simp (maxSteps := 1000000) only [↓reduceIte, go_sem, g3]) | (simp (maxSteps := 1000000) (disch := first | omega | assumption) only [BB, g3]) | with_reducible refine Gst.now ?_ | with_reducible refine vawp_draw mixed (by kernel_rfl) ?_ | with_reducible first | refine lwV_out ?_ | refine lwV_out0 ?_ | refine lkC_out ?_ | refine And.intro (by omega) ?_ | fail)
      refine hq _ _ ?_
      repeat (first | (simp (maxSteps := 1000000) only [↓reduceIte, go_sem]) | (simp (maxSteps := 1000000) (disch := first | omega | assumption) only [BB]) | with_reducible refine Gst.now ?_ | with_reducible refine vawp_draw mixed (by kernel_rfl) ?_ | with_reducible first | refine lwV_out ?_ | refine lwV_out0 ?_ | refine lkC_out ?_ | refine And.intro (by omega) ?_ | fail)
      exact .now hK
/-! ### the reader -/
def LrB (nl : Bool) (bs : List Nat) (a : Nat) (sh : Bool) : List AV := [.isl nl bs.length (bs.map (iv .u8)), (.sc (.int .i64 ((a : Nat)))), (.sc (.bool (sh)))]
attribute [local go_sem] LrB
theorem lread_v {l : Nat} {nl : Bool} {bs : List Nat} (hl : l = bs.length) (hK : ∀ j, h j = none → K (.op j 0) (hset h j (.cells 63 false (LrB nl bs 0 false)))) : VC Try.prog GL (n + 1) 33 [.isl nl l (bs.map (iv .u8))] h K := by
  refine VC_go Try.func33 rfl (by decide) Try.ntmps33 Try.results33 rfl fun Q hq hn => ?_
  subst hl
  repeat (first | (simp (maxSteps := 1000000) only [↓reduceIte, go_sem]) | (simp (maxSteps := 1000000) (disch := first | omega | assumption) only [BB]) | with_reducible refine Gst.now ?_ | with_reducible refine vawp_draw mixed (by kernel_rfl) ?_ | with_reducible first | refine lwV_out ?_ | refine lwV_out0 ?_ | refine lkC_out ?_ | refine And.intro (by omega) ?_ | fail)
  intro j hj
  repeat (first | (simp (maxSteps := 1000000) only [↓reduceIte, go_sem]) | (simp (maxSteps := 1000000) (disch := first | omega | assumption) only [BB]) | with_reducible refine Gst.now ?_ | with_reducible refine vawp_draw mixed (by kernel_rfl) ?_ | with_reducible first | refine lwV_out ?_ | refine lwV_out0 ?_ | refine lkC_out ?_ | refine And.intro (by omega) ?_ | fail)
  refine hq _ _ ?_
  repeat (first | (simp (maxSteps := 1000000) only [↓reduceIte, go_sem]) | (simp (maxSteps := 1000000) (disch := first | omega | assumption) only [BB]) | with_reducible refine Gst.now ?_ | with_reducible refine vawp_draw mixed (by kernel_rfl) ?_ | with_reducible first | refine lwV_out ?_ | refine lwV_out0 ?_ | refine lkC_out ?_ | refine And.intro (by omega) ?_ | fail)
  exact .now (hK j hj)
theorem lleft_v {j a : Nat} {nl sh : Bool} {bs : List Nat} (hr : blkV h j = some (63, LrB nl bs a sh)) (ha : a ≤ bs.length) (hbl : bs.length ≤ 140737488355328) (hK : K (.sc (.int .i64 ((bs.length - a : Nat)))) h) : VC Try.prog GL (n + 1) 38 [.op j 0] h K := by
  refine VC_go Try.func38 rfl (by decide) Try.ntmps38 Try.results38 rfl fun Q hq hn => ?_
  repeat (first | (simp (maxSteps := 1000000) only [↓reduceIte, go_sem, hr, LrB]) | (simp (maxSteps := 1000000) (disch := first | omega | assumption) only [BB, hr, LrB]) | with_reducible refine Gst.now ?_ | with_reducible refine vawp_draw mixed (by kernel_rfl) ?_ | with_reducible first | refine lwV_out ?_ | refine lwV_out0 ?_ | refine lkC_out ?_ | refine And.intro (by omega) ?_ | fail)
  refine hq _ _ ?_
  repeat (first | (simp (maxSteps := 1000000) only [↓reduceIte, go_sem]) | (simp (maxSteps := 1000000) (disch := first | omega | assumption) only [BB]) | with_reducible refine Gst.now ?_ | with_reducible refine vawp_draw mixed (by kernel_rfl) ?_ | with_reducible first | refine lwV_out ?_ | refine lwV_out0 ?_ | refine lkC_out ?_ | refine And.intro (by omega) ?_ | fail)
  exact .now hK
theorem lclone_v {nl : Bool} {l : Nat} {xs : List Nat} (hl : l = xs.length) (hnl : nl = true → xs = []) (hb : xs.length ≤ 140737488355328) (hK : K (.isl nl l (xs.map (iv .u8))) h) : VC Try.prog GL (n + 1) 39 [.isl nl l (xs.map (iv .u8))] h K := by
  refine VC_go Try.func39 rfl (by decide) Try.ntmps39 Try.results39 rfl fun Q hq hn => ?_
  subst hl
  repeat (first | (simp (maxSteps := 1000000) only [↓reduceIte, go_sem]) | (simp (maxSteps := 1000000) (disch := first | omega | assumption) only [BB]) | with_reducible refine Gst.now ?_ | with_reducible refine vawp_draw mixed (by kernel_rfl) ?_ | with_reducible first | refine lwV_out ?_ | refine lwV_out0 ?_ | refine lkC_out ?_ | refine And.intro (by omega) ?_ | fail)
  cases nl with
  | true =>
    have := hnl rfl
    subst this
    repeat (first | (simp (maxSteps := 1000000) only [↓reduceIte, go_sem]) | (simp (maxSteps := 1000000) (disch := first | omega | assumption) only [BB]) | with_reducible refine Gst.now ?_ | with_reducible refine vawp_draw mixed (by kernel_rfl) ?_ | with_reducible first | refine lwV_out ?_ | refine lwV_out0 ?_ | refine lkC_out ?_ | refine And.intro (by omega) ?_ | fail)
    refine hq _ _ ?_
    repeat (first | (simp (maxSteps := 1000000) only [↓reduceIte, go_sem]) | (simp (maxSteps := 1000000) (disch := first | omega | assumption) only [BB]) | with_reducible refine Gst.now ?_ | with_reducible refine vawp_draw mixed (by kernel_rfl) ?_ | with_reducible first | refine lwV_out ?_ | refine lwV_out0 ?_ | refine lkC_out ?_ | refine And.intro (by omega) ?_ | fail)
    exact .now hK
  | false =>
    repeat (first | (simp (maxSteps := 1000000) only [↓reduceIte, go_sem]) | (simp (maxSteps := 1000000) (disch := first | omega | assumption) only [BB]) | with_reducible refine Gst.now ?_ | with_reducible refine vawp_draw mixed (by kernel_rfl) ?_ | with_reducible first | refine lwV_out ?_ | refine lwV_out0 ?_ | refine lkC_out ?_ | refine And.intro (by omega) ?_ | fail)
    refine vBuildS_o bs29 ?_ ?_ ?_ ?_ ?_
    rfl
    rfl
    rfl
    rfl
    intro j hj
    repeat (first | (simp (maxSteps := 1000000) only [↓reduceIte, go_sem]) | (simp (maxSteps := 1000000) (disch := first | omega | assumption) only [BB]) | with_reducible refine Gst.now ?_ | with_reducible refine vawp_draw mixed (by kernel_rfl) ?_ | with_reducible first | refine lwV_out ?_ | refine lwV_out0 ?_ | refine lkC_out ?_ | refine And.intro (by omega) ?_ | fail)
    apply vApp_own_isl ap29 (by simp only [go_sem])
    case hv => first | (simp []; done) | (simp []; omega)
    case hj => repeat (first | exact hset_at _ _ _ | assumption | refine (hset_ne _ _ (by first | omega | assumption)).trans ?_ | refine (hdel_ne _ (by first | omega | assumption)).trans ?_ | fail)
    case hl => first | (simp []; done) | (simp []; omega)
    case h1 => first | omega | (simp []; omega) | (simp []; done)
    case h2 => first | omega | (simp []; omega) | (simp []; done)
    intro j' hj'
    try simp (disch := first | omega | assumption) only [go_sem, hset_none, hdel_none] at hj'
    try simp (disch := first | omega | assumption) only [hset_none, hdel_none] at hj'
    repeat (first | (simp (maxSteps := 1000000) only [↓reduceIte, go_sem]) | (simp (maxSteps := 1000000) (disch := first | omega | assumption) only [BB]) | with_reducible refine Gst.now ?_ | with_reducible refine vawp_draw mixed (by kernel_rfl) ?_ | with_reducible first | refine lwV_out ?_ | refine lwV_out0 ?_ | refine lkC_out ?_ | refine And.intro (by omega) ?_ | fail)
    refine hq _ _ ?_
    repeat (first | (simp (maxSteps := 1000000) only [↓reduceIte, go_sem]) | (simp (maxSteps := 1000000) (disch := first | omega | assumption) only [BB]) | with_reducible refine Gst.now ?_ | with_reducible refine vawp_draw mixed (by kernel_rfl) ?_ | with_reducible first | refine lwV_out ?_ | refine lwV_out0 ?_ | refine lkC_out ?_ | refine And.intro (by omega) ?_ | fail)
    refine .own1 (hset_at _ _ _) ?_
    repeat (first | (simp (maxSteps := 1000000) only [↓reduceIte, go_sem]) | (simp (maxSteps := 1000000) (disch := first | omega | assumption) only [BB]) | with_reducible refine Gst.now ?_ | with_reducible refine vawp_draw mixed (by kernel_rfl) ?_ | with_reducible first | refine lwV_out ?_ | refine lwV_out0 ?_ | refine lkC_out ?_ | refine And.intro (by omega) ?_ | fail)
    exact hK
theorem lbytes_v {j a : Nat} {nl sh : Bool} {bs : List Nat} {m : Int} (hr : blkV h j = some (63, LrB nl bs a sh)) (ha : a ≤ bs.length) (hbl : bs.length ≤ 140737488355328) (hnl : nl = true → bs = [])
    (hK1 : sh = true ∨ bs.length < a + m.toNat → K (.isl true 0 []) (hset h j (.cells 63 false (LrB nl bs a true))))
    (hK2 : sh = false → a + m.toNat ≤ bs.length → K (.isl nl m.toNat (((bs.drop a).take m.toNat).map (iv .u8))) (hset h j (.cells 63 false (LrB nl bs (a + m.toNat) sh)))) : VC Try.prog GL (n + 2) 37 [.op j 0, (.sc (.int .i64 (m)))] h K := by
  refine VC_go Try.func37 rfl (by decide) Try.ntmps37 Try.results37 rfl fun Q hq hn => ?_
  have em : (if m < 0 then 0 else m) = (m.toNat : Int) := by split <;> omega
  cases sh with
  | true =>
    repeat (first | (simp (maxSteps := 1000000) only [↓reduceIte, go_sem, hr, LrB, em]) | (simp (maxSteps := 1000000) (disch := first | omega | assumption) only [BB, hr, LrB, em]) | with_reducible refine Gst.now ?_ | with_reducible refine vawp_draw mixed (by kernel_rfl) ?_ | with_reducible first | refine lwV_out ?_ | refine lwV_out0 ?_ | refine lkC_out ?_ | refine And.intro (by omega) ?_ | fail)
    refine hq _ _ ?_
    repeat (first | (simp (maxSteps := 1000000) only [↓reduceIte, go_sem]) | (simp (maxSteps := 1000000) (disch := first | omega | assumption) only [BB]) | with_reducible refine Gst.now ?_ | with_reducible refine vawp_draw mixed (by kernel_rfl) ?_ | with_reducible first | refine lwV_out ?_ | refine lwV_out0 ?_ | refine lkC_out ?_ | refine And.intro (by omega) ?_ | fail)
    exact .now (hK1 (.inl rfl))
  | false =>
    repeat (first | (simp (maxSteps := 1000000) only [↓reduceIte, go_sem, hr, LrB, em]) | (simp (maxSteps := 1000000) (disch := first | omega | assumption) only [BB, hr, LrB, em]) | with_reducible refine Gst.now ?_ | with_reducible refine vawp_draw mixed (by kernel_rfl) ?_ | with_reducible first | refine lwV_out ?_ | refine lwV_out0 ?_ | refine lkC_out ?_ | refine And.intro (by omega) ?_ | fail)
    with_reducible refine call_ok ?_
    refine lleft_v hr ha hbl ?_
    repeat (first | (simp (maxSteps := 1000000) only [↓reduceIte, go_sem]) | (simp (maxSteps := 1000000) (disch := first | omega | assumption) only [BB]) | with_reducible refine Gst.now ?_ | with_reducible refine vawp_draw mixed (by kernel_rfl) ?_ | with_reducible first | refine lwV_out ?_ | refine lwV_out0 ?_ | refine lkC_out ?_ | refine And.intro (by omega) ?_ | fail)
    split
    · repeat (first | (simp (maxSteps := 1000000) only [↓reduceIte, go_sem, hr, LrB]) | (simp (maxSteps := 1000000) (disch := first | omega | assumption) only [BB, hr, LrB]) | with_reducible refine Gst.now ?_ | with_reducible refine vawp_draw mixed (by kernel_rfl) ?_ | with_reducible first | refine lwV_out ?_ | refine lwV_out0 ?_ | refine lkC_out ?_ | refine And.intro (by omega) ?_ | fail)
      refine hq _ _ ?_
      repeat (first | (simp (maxSteps := 1000000) only [↓reduceIte, go_sem]) | (simp (maxSteps := 1000000) (disch := first | omega | assumption) only [BB]) | with_reducible refine Gst.now ?_ | with_reducible refine vawp_draw mixed (by kernel_rfl) ?_ | with_reducible first | refine lwV_out ?_ | refine lwV_out0 ?_ | refine lkC_out ?_ | refine And.intro (by omega) ?_ | fail)
      exact .now (hK1 (.inr (by omega)))
    · repeat (first | (simp (maxSteps := 1000000) only [↓reduceIte, go_sem, hr, LrB]) | (simp (maxSteps := 1000000) (disch := first | omega | assumption) only [BB, hr, LrB]) | with_reducible refine Gst.now ?_ | with_reducible refine vawp_draw mixed (by kernel_rfl) ?_ | with_reducible first | refine lwV_out ?_ | refine lwV_out0 ?_ | refine lkC_out ?_ | refine And.intro (by omega) ?_ | fail)
      with_reducible refine call_ok ?_
      refine lclone_v (by rw [List.length_take, List.length_drop]; omega) (fun e => by rw [hnl e]; simp) (by rw [List.length_take, List.length_drop]; omega) ?_
      repeat (first | (simp (maxSteps := 1000000) only [↓reduceIte, go_sem]) | (simp (maxSteps := 1000000) (disch := first | omega | assumption) only [BB]) | with_reducible refine Gst.now ?_ | with_reducible refine vawp_draw mixed (by kernel_rfl) ?_ | with_reducible first | refine lwV_out ?_ | refine lwV_out0 ?_ | refine lkC_out ?_ | refine And.intro (by omega) ?_ | fail)
      refine hq _ _ ?_
      repeat (first | (simp (maxSteps := 1000000) only [↓reduceIte, go_sem]) | (simp (maxSteps := 1000000) (disch := first | omega | assumption) only [BB]) | with_reducible refine Gst.now ?_ | with_reducible refine vawp_draw mixed (by kernel_rfl) ?_ | with_reducible first | refine lwV_out ?_ | refine lwV_out0 ?_ | refine lkC_out ?_ | refine And.intro (by omega) ?_ | fail)
      exact .now (hK2 rfl (by omega))
theorem lnum_v {j a : Nat} {nl sh : Bool} {bs : List Nat} {s : Int} (hr : blkV h j = some (63, LrB nl bs a sh)) (ha : a ≤ bs.length) (hbl : bs.length ≤ 140737488355328) (hb : IsBy bs) (hnl : nl = true → bs = [])
    (hK1 : sh = true ∨ bs.length < a + hs8 s → K (.sc (.int .u64 (0))) (hset h j (.cells 63 false (LrB nl bs a true))))
    (hK2 : sh = false → a + hs8 s ≤ bs.length → K (.sc (.int .u64 ((leN ((bs.drop a).take (hs8 s)) : Nat)))) (hset h j (.cells 63 false (LrB nl bs (a + hs8 s) sh)))) : VC Try.prog GL (n + 3) 34 [.op j 0, (.sc (.int .i64 (s)))] h K := by
  refine VC_go Try.func34 rfl (by decide) Try.ntmps34 Try.results34 rfl fun Q hq hn => ?_
  repeat (first | (simp (maxSteps := 1000000) only [↓reduceIte, go_sem]) | (simp (maxSteps := 1000000) (disch := first | omega | assumption) only [BB]) | with_reducible refine Gst.now ?_ | with_reducible refine vawp_draw mixed (by kernel_rfl) ?_ | with_reducible first | refine lwV_out ?_ | refine lwV_out0 ?_ | refine lkC_out ?_ | refine And.intro (by omega) ?_ | fail)
  with_reducible refine call_ok ?_
  refine lheld_v ?_
  have hs := hs8_le s
  generalize hs8 s = N at *
  repeat (first | (simp (maxSteps := 1000000) only [↓reduceIte, go_sem]) | (simp (maxSteps := 1000000) (disch := first | omega | assumption) only [BB]) | with_reducible refine Gst.now ?_ | with_reducible refine vawp_draw mixed (by kernel_rfl) ?_ | with_reducible first | refine lwV_out ?_ | refine lwV_out0 ?_ | refine lkC_out ?_ | refine And.intro (by omega) ?_ | fail)
  with_reducible refine call_ok ?_
  refine lbytes_v hr ha hbl hnl (fun hh => ?_) (fun hh1 hh2 => ?_)
  · repeat (first | (simp (maxSteps := 1000000) only [↓reduceIte, go_sem]) | (simp (maxSteps := 1000000) (disch := first | omega | assumption) only [BB]) | with_reducible refine Gst.now ?_ | with_reducible refine vawp_draw mixed (by kernel_rfl) ?_ | with_reducible first | refine lwV_out ?_ | refine lwV_out0 ?_ | refine lkC_out ?_ | refine And.intro (by omega) ?_ | fail)
    with_reducible refine call_ok ?_
    refine lget_v (bs := []) rfl (by simp) (fun b hb => by simp at hb) ?_
    repeat (first | (simp (maxSteps := 1000000) only [↓reduceIte, go_sem]) | (simp (maxSteps := 1000000) (disch := first | omega | assumption) only [BB]) | with_reducible refine Gst.now ?_ | with_reducible refine vawp_draw mixed (by kernel_rfl) ?_ | with_reducible first | refine lwV_out ?_ | refine lwV_out0 ?_ | refine lkC_out ?_ | refine And.intro (by omega) ?_ | fail)
    refine hq _ _ ?_
    repeat (first | (simp (maxSteps := 1000000) only [↓reduceIte, go_sem]) | (simp (maxSteps := 1000000) (disch := first | omega | assumption) only [BB]) | with_reducible refine Gst.now ?_ | with_reducible refine vawp_draw mixed (by kernel_rfl) ?_ | with_reducible first | refine lwV_out ?_ | refine lwV_out0 ?_ | refine lkC_out ?_ | refine And.intro (by omega) ?_ | fail)
    exact .now (hK1 hh)
  · repeat (first | (simp (maxSteps := 1000000) only [↓reduceIte, go_sem]) | (simp (maxSteps := 1000000) (disch := first | omega | assumption) only [BB]) | with_reducible refine Gst.now ?_ | with_reducible refine vawp_draw mixed (by kernel_rfl) ?_ | with_reducible first | refine lwV_out ?_ | refine lwV_out0 ?_ | refine lkC_out ?_ | refine And.intro (by omega) ?_ | fail)
    with_reducible refine call_ok ?_
    refine lget_v (by rw [List.length_take, List.length_drop]; omega) (by rw [List.length_take, List.length_drop]; omega) ((hb.drop a).take _) ?_
    rw [List.take_take, show min 8 N = N by omega]
    repeat (first | (simp (maxSteps := 1000000) only [↓reduceIte, go_sem]) | (simp (maxSteps := 1000000) (disch := first | omega | assumption) only [BB]) | with_reducible refine Gst.now ?_ | with_reducible refine vawp_draw mixed (by kernel_rfl) ?_ | with_reducible first | refine lwV_out ?_ | refine lwV_out0 ?_ | refine lkC_out ?_ | refine And.intro (by omega) ?_ | fail)
    refine hq _ _ ?_
    repeat (first | (simp (maxSteps := 1000000) only [↓reduceIte, go_sem]) | (simp (maxSteps := 1000000) (disch := first | omega | assumption) only [BB]) | with_reducible refine Gst.now ?_ | with_reducible refine vawp_draw mixed (by kernel_rfl) ?_ | with_reducible first | refine lwV_out ?_ | refine lwV_out0 ?_ | refine lkC_out ?_ | refine And.intro (by omega) ?_ | fail)
    exact .now (hK2 hh1 (by simpa using hh2))
end
end Go.Proofs.Ytcdjaihaalaepaa.VLittle
