/- the references of chapters 7 and 18, over the machine of values. -/
import Derived.Test.YtcdjaihaalaepaaProg
import Derived.Test.YtcdjaihaalaepaaAbV14
import Derived.Test.YtcdjaihaalaepaaAbFacts
import Derived.Test.YtcdjaihaalaepaaAbLittleM
import Derived.Test.YtcdjaihaalaepaaAbVLittle
import Derived.KernelRfl
import Derived.Laws.BitsAllLaws
set_option linter.unusedVariables false
set_option linter.unusedSimpArgs false
set_option maxRecDepth 100000
set_option maxHeartbeats 4000000
namespace Go.Proofs.Ytcdjaihaalaepaa.VRef07
open Go.RowKit Go.Proofs.AbM Go.Proofs.Ytcdjaihaalaepaa.Facts Go.Proofs.Ytcdjaihaalaepaa.LittleM Go.Proofs.Ytcdjaihaalaepaa.VLittle
attribute [local go_sem] vawp_skip_eq vawp_seq_eq vawp_region_eq vawp_cond_g vawp_block_eq vawp_exit_eq vawp_ret_eq thenV_ret thenV_exit thenV_normal inBlockV_normal inBlockV_ret inBlockV_exit resKV_nil resKV_tmp resKV_cell oneV_one oneV_nil oneV_more initV_nil initV_cons updV_at evv_tmp evv_func evv_global evv_int evv_bool evv_str evv_snil evv_pnil evv_agg ofV3_int ofV3_bool ofV3_str ofV3_snil ofV3_pnil vok_tmp vok_func vok_global vok_int vok_bool vok_str vok_snil vok_pnil vok_agg cloV3_int cloV3_bool cloV3_str cloV3_snil cloV3_pnil voks_nil voks_cons scV_int scV_bool scV_str isBlV_b isBV_t isBV_f lwV_none lwV_sc lwV_agg lwV_tup lwV_isl lwV_own lwV_op lwV_ip lwV_fn lwV_junk vops_nil vops_n vops_s gsN_eq vop dstOk_some dstOk_none pkV_b blkV_set eRead_f eRead_t vLoad_op vLoad_ip vStore_op cells_sc cells_isl cells_own cells_op cells_ip cells_fn cells_agg parts_sc parts_isl parts_own parts_op parts_ip parts_fn parts_agg one_sc one_isl one_own one_op one_ip one_fn vField_op vField_ip ePart_f ePart_t vFieldV_agg vIx_isl vIx_own vIx_op vIx_ip vIxV_agg vIxV_str vLen_str vLen_isl vLen_own vLen_agg bndE_none bndE_int vSlice_isl vSlice_str vBin_add vBin_sub vBin_mul vBin_quo vBin_rem vBin_and vBin_or vBin_xor vBin_andNot vBin_eql vBin_neq vBin_lss vBin_leq vBin_gtr vBin_geq vBin_shr_i8 vBin_shl_i8 vBin_shr_i16 vBin_shl_i16 vBin_shr_i32 vBin_shl_i32 vBin_shr_i64 vBin_shl_i64 vBin_shr_u8 vBin_shl_u8 vBin_shr_u16 vBin_shl_u16 vBin_shr_u32 vBin_shl_u32 vBin_shr_u64 vBin_shl_u64 vBin_seq vBin_sne vBin_isln vBin_opn vBin_ipn ex_sc ex_sc2 ex_sc3 ex_tup calleeV wSc_pb wSc_pi wSc_not wSc_neg wSc_com wSc_min2 wSc_max2 vfold_nil vfold_one vfold_cons vfill_nil vfill_e eFill_s vBuild vBox vAlloc setV_map setV_zs setV_zn setV_s hset_hset eConv_ss vConv_e iv_eq ivI_eq ex_get ex_getI set_iv set_ivI okNil isNilV isSlV hdel_at hset_at List.map_toArray List.map_cons List.map_nil List.nil_append List.cons_append List.append_nil List.toList_toArray List.getElem?_toArray List.getElem_toArray List.getElem_cons_zero List.getElem_cons_succ List.getElem?_cons_zero List.getElem?_cons_succ List.set_cons_zero List.set_cons_succ List.set_set List.length_cons List.length_nil List.length_set List.length_map List.all_cons List.all_nil List.drop_zero List.drop_succ_cons List.take_succ_cons List.take_zero List.flatMap_cons Bool.and_eq_true true_and and_true if_true if_false ite_true ite_false forall_eq' forall_eq exists_eq_left exists_eq_left' exists_eq' Value.bool.injEq Value.int.injEq Value.string.injEq Value.pointer.injEq Option.some.injEq AV.sc.injEq AV.op.injEq AV.ip.injEq AV.own.injEq AV.agg.injEq VB.cells.injEq VB.iter.injEq Prod.mk.injEq decide_eq_true_eq decide_eq_false_iff_not Nat.reduceEqDiff Nat.reduceLT Nat.reduceLeDiff Nat.reduceSub Nat.reduceBEq reduceIte Int.reduceLE Int.reduceLT Int.reduceToNat Int.reduceNeg Int.reduceEq Int.reduceNe Int.cast_ofNat_Int Nat.reduceMul Nat.reduceAdd Nat.reduceDiv Nat.reduceMod Nat.reducePow Int.reduceSub Int.reduceAdd Int.reduceMul Int.reducePow Option.isSome_some Option.isSome_none Option.bind_some Option.map_some Option.map_none Option.toList_some Option.toList_none true_or or_true or_false false_or Bool.not_true Bool.not_false Bool.not_eq_true Bool.false_eq_true Bool.not_not false_implies true_implies implies_true Nat.zero_add Nat.add_zero Nat.mul_one Bool.not_eq_true' Bool.true_eq_false Bool.and_true Bool.true_and Bool.and_false Bool.false_and Bool.or_true Bool.true_or Bool.or_false Bool.false_or Option.isNone_some Option.isNone_none Int.reduceBEq Int.reduceBNe beq_self_eq_true bne_self_eq_false beq_iff_eq not_false_eq_true not_true_eq_false Decidable.not_not bne_iff_ne ne_eq Int.toNat_natCast gt_lt ge_le c_add c_mul c_sub c_addn c_nadd c_muln c_nmul c_subn c_nsub c_divn c_modn c_div c_mod c_tdivn c_tmodn c_tdiv c_tmod c_pow c_nn c_beq c_beqn c_bne c_bnen wr64 wr32 wru64 wru32 wru16 wru8 c_if c_if1 c_if2 c_lt c_le c_eq c_ltn c_len c_nlt c_nle c_eqn m_drop m_take Nat.add_sub_cancel_left Nat.add_sub_cancel Int.reduceTMod Int.reduceTDiv Int.reduceMod Int.reduceDiv isC_some hset_ne hdel_ne hdel_hset hdel_hset_ne blkV_nset blkV_ndel hset_hdel gV_t gV_f isGdV_b isGdV_u isBV_u isGdV_g isBV_gt isBV_gf decide_true decide_false Bool.or_eq_false_iff eq_self Nat.lt_irrefl Int.lt_irrefl Nat.le_refl Int.le_refl
attribute [local go_sem high] vops_pk vops_mv vops_as vops_smv pk_and pk_or pk_gand pk_gor pk_orn pk_gorn
attribute [local go_sem] ag3 sz3 zc3 ik3 ag4 sz4 zc4 ag5 sz5 zc5 ik5 ag9 sz9 zc9 iq9 ag22 sz22 zc22 ik22 ag23 sz23 zc23 ik23 ag25 sz25 zc25 eqs25 nes25 bo25 ag27 sz27 zc27 eqs27 nes27 bo27 ag29 sz29 el29 zc29 is29 ag33 sz33 zc33 ik33 ag41 sz41 zc41 ag45 sz45 zc45 bo45 ag47 sz47 el47 zc47 is47 ag48 sz48 el48 zc48 is48 ag52 sz52 el52 zc52 is52 ag56 sz56 el56 zc56 is56 ag59 sz59 zc59 pt59 ag63 sz63 zc63 bo63 of25_0 fd25_0 of25_1 fd25_1 of25_2 fd25_2 of25_3 fd25_3 of25_4 fd25_4 of25_5 fd25_5 of25_6 fd25_6 of25_7 fd25_7 of25_8 fd25_8 of27_0 fd27_0 of27_1 fd27_1 of27_2 fd27_2 of27_3 fd27_3 of27_4 fd27_4 of27_5 fd27_5 of27_6 fd27_6 of27_7 fd27_7 of27_8 fd27_8 of45_0 fd45_0 of45_1 fd45_1 of63_0 fd63_0 of63_1 fd63_1 of63_2 fd63_2 eqb neb
section
variable {n : Nat} {h : VH} {K : AV → VH → Prop}
theorem rput7_v {x : Nat} {s : Nat} (hx : x < 18446744073709551616) (hs : s ≤ 8) (hK : ∀ j, h j = none → FrK K (.own j 0 s) (hset h j (.cells 5 false ((leB s x).map (iv .u8))))) : VC Try.prog GL (n + 2) 31 [(.sc (.int .u64 (x))), (.sc (.int .i64 (s)))] h K := by
  refine VC_go Try.func31 rfl (by decide) Try.ntmps31 Try.results31 rfl fun Q hq hn => ?_
  repeat (first | (simp (maxSteps := 1000000) only [↓reduceIte, go_sem]) | (simp (maxSteps := 1000000) (disch := first | omega | assumption) only [BB]) | with_reducible refine Gst.now ?_ | with_reducible refine vawp_draw mixed (by kernel_rfl) ?_ | with_reducible first | refine lwV_out ?_ | refine lwV_out0 ?_ | refine lkC_out ?_ | refine And.intro (by omega) ?_ | fail)
  refine vBuildS_o bs29 ?_ ?_ ?_ ?_ ?_
  rfl
  rfl
  rfl
  rfl
  intro j0 hj0
  repeat (first | (simp (maxSteps := 1000000) only [↓reduceIte, go_sem]) | (simp (maxSteps := 1000000) (disch := first | omega | assumption) only [BB]) | with_reducible refine Gst.now ?_ | with_reducible refine vawp_draw mixed (by kernel_rfl) ?_ | with_reducible first | refine lwV_out ?_ | refine lwV_out0 ?_ | refine lkC_out ?_ | refine And.intro (by omega) ?_ | fail)
  refine vawp_loop (k := s) (fun k ρ h1 => ∃ i : Nat, k + i = s ∧ ρ 0 = (.sc (.int .u64 ((x / 256 ^ i : Nat)))) ∧ ρ 1 = (.sc (.int .i64 (s))) ∧ ρ 6 = (.sc (.int .i64 (i))) ∧ ∃ j, h j = none ∧ ρ 5 = .own j 0 i ∧ h1 = hset h j (.cells 5 false ((leB i x).map (iv .u8)))) ?_ ?_
  · refine ⟨0, by omega, ?_⟩
    repeat (first | (simp (maxSteps := 1000000) only [↓reduceIte, go_sem]) | (simp (maxSteps := 1000000) (disch := first | omega | assumption) only [BB]) | with_reducible refine Gst.now ?_ | with_reducible refine vawp_draw mixed (by kernel_rfl) ?_ | with_reducible first | refine lwV_out ?_ | refine lwV_out0 ?_ | refine lkC_out ?_ | refine And.intro (by omega) ?_ | fail)
    exact ⟨j0, hj0, rfl, rfl⟩
  · rintro k ρ h1 ⟨i, hki, g0, g1, g6, j, hj, g5, rfl⟩
    have hxi : x / 256 ^ i < 18446744073709551616 := Nat.lt_of_le_of_lt (Nat.div_le_self _ _) hx
    have hll := leB_len i x
    by_cases his : i < s
    · have h8 : i < 8 := by omega
      have e1 := eq_true his
      have e2 := eq_true h8
      repeat (first | (simp (maxSteps := 1000000) only [↓reduceIte, go_sem, g0, g1, g5, g6, e1, e2]) | (simp (maxSteps := 1000000) (disch := first | omega | assumption) only [BB, g0, g1, g5, g6, e1, e2]) | with_reducible refine Gst.now ?_ | with_reducible refine vawp_draw mixed (by kernel_rfl) ?_ | with_reducible first | refine lwV_out ?_ | refine lwV_out0 ?_ | refine lkC_out ?_ | refine And.intro (by omega) ?_ | fail)
      refine vBuildS_i bs29 ?_ ?_ ?_ ?_ ?_
      rfl
      rfl
      rfl
      rfl
      repeat (first | (simp (maxSteps := 1000000) only [↓reduceIte, go_sem]) | (simp (maxSteps := 1000000) (disch := first | omega | assumption) only [BB]) | with_reducible refine Gst.now ?_ | with_reducible refine vawp_draw mixed (by kernel_rfl) ?_ | with_reducible first | refine lwV_out ?_ | refine lwV_out0 ?_ | refine lkC_out ?_ | refine And.intro (by omega) ?_ | fail)
      apply vApp_own_isl ap29 (by simp only [go_sem])
      case hv => first | (simp [hll]; done) | (simp [hll]; omega)
      case hj => repeat (first | exact hset_at _ _ _ | assumption | refine (hset_ne _ _ (by first | omega | assumption)).trans ?_ | refine (hdel_ne _ (by first | omega | assumption)).trans ?_ | fail)
      case hl => first | (simp [hll]; done) | (simp [hll]; omega)
      case h1 => first | omega | (simp [hll]; omega) | (simp [hll]; done)
      case h2 => first | omega | (simp [hll]; omega) | (simp [hll]; done)
      intro j' hj'
      try simp (disch := first | omega | assumption) only [go_sem, hset_none, hdel_none] at hj'
      try simp (disch := first | omega | assumption) only [hset_none, hdel_none] at hj'
      have ew : IntKind.u8.wrap ((x / 256 ^ i % 256 : Nat) : Int) = ((x / 256 ^ i % 256 : Nat) : Int) := by
        rw [IntKind.wrap_u8]; omega
      repeat (first | (simp (maxSteps := 1000000) only [↓reduceIte, go_sem, g0, g6]) | (simp (maxSteps := 1000000) (disch := first | omega | assumption) only [BB, g0, g6]) | with_reducible refine Gst.now ?_ | with_reducible refine vawp_draw mixed (by kernel_rfl) ?_ | with_reducible first | refine lwV_out ?_ | refine lwV_out0 ?_ | refine lkC_out ?_ | refine And.intro (by omega) ?_ | fail)
      refine ⟨k - 1, by omega, i + 1, by omega, ?_⟩
      repeat (first | (simp (maxSteps := 1000000) only [↓reduceIte, go_sem, g1]) | (simp (maxSteps := 1000000) (disch := first | omega | assumption) only [BB, g1]) | with_reducible refine Gst.now ?_ | with_reducible refine vawp_draw mixed (by kernel_rfl) ?_ | with_reducible first | refine lwV_out ?_ | refine lwV_out0 ?_ | refine lkC_out ?_ | refine And.intro (by omega) ?_ | fail)
      refine ⟨?_, j', hj', ?_⟩
      · rw [Nat.pow_succ, ← Nat.div_div_eq_div_mul, IntKind.wrap_u64]
        have hq := Nat.div_le_self (x / 256 ^ i) 256
        generalize x / 256 ^ i / 256 = q at *
        omega
      · rw [leB, List.map_append]
        simp [iv]
    · have e1 := eq_false his
      repeat (first | (simp (maxSteps := 1000000) only [↓reduceIte, go_sem, g0, g1, g5, g6, e1]) | (simp (maxSteps := 1000000) (disch := first | omega | assumption) only [BB, g0, g1, g5, g6, e1]) | with_reducible refine Gst.now ?_ | with_reducible refine vawp_draw mixed (by kernel_rfl) ?_ | with_reducible first | refine lwV_out ?_ | refine lwV_out0 ?_ | refine lkC_out ?_ | refine And.intro (by omega) ?_ | fail)
      refine hq _ _ ?_
      repeat (first | (simp (maxSteps := 1000000) only [↓reduceIte, go_sem]) | (simp (maxSteps := 1000000) (disch := first | omega | assumption) only [BB]) | with_reducible refine Gst.now ?_ | with_reducible refine vawp_draw mixed (by kernel_rfl) ?_ | with_reducible first | refine lwV_out ?_ | refine lwV_out0 ?_ | refine lkC_out ?_ | refine And.intro (by omega) ?_ | fail)
      have hi : i = s := by omega
      subst hi
      exact hK j hj
def layN7 (fs : List (Nat × Nat)) : List Nat := fs.flatMap fun f => leB f.2 f.1
theorem layN7_take {fs : List (Nat × Nat)} {i : Nat} (hi : i < fs.length) : layN7 (fs.take (i + 1)) = layN7 (fs.take i) ++ leB (fs.getD i default).2 (fs.getD i default).1 := by
  unfold layN7
  rw [List.take_succ_eq_append_getElem hi, List.flatMap_append, List.getD_eq_getElem?_getD, List.getElem?_eq_getElem hi]; simp
theorem layN7_len (fs : List (Nat × Nat)) (hf : ∀ f ∈ fs, f.1 < 18446744073709551616 ∧ f.2 ≤ 8) : (layN7 fs).length ≤ fs.length * 8 := by
  induction fs with
  | nil => simp [layN7]
  | cons f fs ih =>
    have h1 := ih fun x hx => hf x (by simp [hx])
    have h2 := (hf f (by simp)).2
    unfold layN7 at *
    rw [List.flatMap_cons, List.length_append, leB_len, List.length_cons]
    omega
theorem numbers_v {l l2 : Nat} {nl nl2 : Bool} {fs : List (Nat × Nat)} (hl : l = fs.length) (hl2 : l2 = fs.length) (hb : fs.length ≤ 1000) (hf : ∀ f ∈ fs, f.1 < 18446744073709551616 ∧ f.2 ≤ 8) (hK : K (.isl false (layN7 fs).length ((layN7 fs).map (iv .u8))) h) : VC Try.prog GL (n + 3) 21 [.isl nl l (fs.map fun f => iv .u64 f.1), .isl nl2 l2 (fs.map fun f => iv .i64 f.2)] h K := by
  refine VC_go Try.func21 rfl (by decide) Try.ntmps21 Try.results21 rfl fun Q hq hn => ?_
  subst hl hl2
  repeat (first | (simp (maxSteps := 1000000) only [↓reduceIte, go_sem]) | (simp (maxSteps := 1000000) (disch := first | omega | assumption) only [BB]) | with_reducible refine Gst.now ?_ | with_reducible refine vawp_draw mixed (by kernel_rfl) ?_ | with_reducible first | refine lwV_out ?_ | refine lwV_out0 ?_ | refine lkC_out ?_ | refine And.intro (by omega) ?_ | fail)
  refine vBuildS_o bs29 ?_ ?_ ?_ ?_ ?_
  rfl
  rfl
  rfl
  rfl
  intro j0 hj0
  repeat (first | (simp (maxSteps := 1000000) only [↓reduceIte, go_sem]) | (simp (maxSteps := 1000000) (disch := first | omega | assumption) only [BB]) | with_reducible refine Gst.now ?_ | with_reducible refine vawp_draw mixed (by kernel_rfl) ?_ | with_reducible first | refine lwV_out ?_ | refine lwV_out0 ?_ | refine lkC_out ?_ | refine And.intro (by omega) ?_ | fail)
  refine vawp_loop (k := fs.length) (fun k ρ h1 => ∃ i : Nat, k + i = fs.length ∧ ρ 0 = .isl nl fs.length (fs.map fun f => iv .u64 f.1) ∧ ρ 1 = .isl nl2 fs.length (fs.map fun f => iv .i64 f.2) ∧ ρ 6 = (.sc (.int .i64 (i))) ∧ ∃ j, h j = none ∧ ρ 5 = .own j 0 (layN7 (fs.take i)).length ∧ h1 = hset h j (.cells 5 false ((layN7 (fs.take i)).map (iv .u8)))) ?_ ?_
  · refine ⟨0, by omega, ?_⟩
    repeat (first | (simp (maxSteps := 1000000) only [↓reduceIte, go_sem]) | (simp (maxSteps := 1000000) (disch := first | omega | assumption) only [BB]) | with_reducible refine Gst.now ?_ | with_reducible refine vawp_draw mixed (by kernel_rfl) ?_ | with_reducible first | refine lwV_out ?_ | refine lwV_out0 ?_ | refine lkC_out ?_ | refine And.intro (by omega) ?_ | fail)
    exact ⟨j0, hj0, ⟨rfl, rfl⟩, rfl⟩
  · rintro k ρ h1 ⟨i, hki, g0, g1, g6, j, hj, g5, rfl⟩
    repeat (first | (simp (maxSteps := 1000000) only [↓reduceIte, go_sem, g0, g1, g5, g6]) | (simp (maxSteps := 1000000) (disch := first | omega | assumption) only [BB, g0, g1, g5, g6]) | with_reducible refine Gst.now ?_ | with_reducible refine vawp_draw mixed (by kernel_rfl) ?_ | with_reducible first | refine lwV_out ?_ | refine lwV_out0 ?_ | refine lkC_out ?_ | refine And.intro (by omega) ?_ | fail)
    split
    · have hi : i < fs.length := by omega
      have htk := layN7_take hi
      have hlt := layN7_len (fs.take i) fun x hx => hf x (List.mem_of_mem_take hx)
      rw [List.length_take] at hlt
      have hg1 : (fs.map fun f => iv .u64 f.1)[i]? = some (iv .u64 (fs.getD i default).1) := by
        rw [List.getElem?_map, List.getD_eq_getElem?_getD, List.getElem?_eq_getElem hi]; rfl
      have hg2 : (fs.map fun f => iv .i64 f.2)[i]? = some (iv .i64 (fs.getD i default).2) := by
        rw [List.getElem?_map, List.getD_eq_getElem?_getD, List.getElem?_eq_getElem hi]; rfl
      have hom : fs.getD i default ∈ fs := by rw [List.getD_eq_getElem?_getD, List.getElem?_eq_getElem hi]; exact List.getElem_mem hi
      generalize fs.getD i default = o at *
      obtain ⟨o1, o2⟩ := hf o hom
      have hll := leB_len o.2 o.1
      simp only [iv] at hg1 hg2
      repeat (first | (simp (maxSteps := 1000000) only [↓reduceIte, go_sem, g0, g1, g5, g6, hg1, hg2]) | (simp (maxSteps := 1000000) (disch := first | omega | assumption) only [BB, g0, g1, g5, g6, hg1, hg2]) | with_reducible refine Gst.nowV ?_ | with_reducible refine vawp_draw mixed (by kernel_rfl) ?_ | with_reducible first | refine lwV_out ?_ | refine lwV_out0 ?_ | refine lkC_out ?_ | refine And.intro (by omega) ?_ | fail)
      with_reducible refine call_ok ?_
      refine rput7_v o1 o2 fun jx hjx => .iso hjx ?_
      repeat (first | (simp (maxSteps := 1000000) only [↓reduceIte, go_sem, g5]) | (simp (maxSteps := 1000000) (disch := first | omega | assumption) only [BB, g5]) | with_reducible refine Gst.nowV ?_ | with_reducible refine vawp_draw mixed (by kernel_rfl) ?_ | with_reducible first | refine lwV_out ?_ | refine lwV_out0 ?_ | refine lkC_out ?_ | refine And.intro (by omega) ?_ | fail)
      apply vApp_own_isl ap29 (by simp only [go_sem])
      case hv => first | (simp [hll]; done) | (simp [hll]; omega)
      case hj => repeat (first | exact hset_at _ _ _ | assumption | refine (hset_ne _ _ (by first | omega | assumption)).trans ?_ | refine (hdel_ne _ (by first | omega | assumption)).trans ?_ | fail)
      case hl => first | (simp [hll]; done) | (simp [hll]; omega)
      case h1 => first | omega | (simp [hll]; omega) | (simp [hll]; done)
      case h2 => first | omega | (simp [hll]; omega) | (simp [hll]; done)
      intro j' hj'
      try simp (disch := first | omega | assumption) only [go_sem, hset_none, hdel_none] at hj'
      try simp (disch := first | omega | assumption) only [hset_none, hdel_none] at hj'
      repeat (first | (simp (maxSteps := 1000000) only [↓reduceIte, go_sem]) | (simp (maxSteps := 1000000) (disch := first | omega | assumption) only [BB]) | with_reducible refine Gst.nowV ?_ | with_reducible refine vawp_draw mixed (by kernel_rfl) ?_ | with_reducible first | refine lwV_out ?_ | refine lwV_out0 ?_ | refine lkC_out ?_ | refine And.intro (by omega) ?_ | fail)
      repeat (first | (simp (maxSteps := 1000000) only [↓reduceIte, go_sem, g6]) | (simp (maxSteps := 1000000) (disch := first | omega | assumption) only [BB, g6]) | with_reducible refine Gst.now ?_ | with_reducible refine vawp_draw mixed (by kernel_rfl) ?_ | with_reducible first | refine lwV_out ?_ | refine lwV_out0 ?_ | refine lkC_out ?_ | refine And.intro (by omega) ?_ | fail)
      refine ⟨k - 1, by omega, i + 1, by omega, ?_⟩
      repeat (first | (simp (maxSteps := 1000000) only [↓reduceIte, go_sem, g0, g1]) | (simp (maxSteps := 1000000) (disch := first | omega | assumption) only [BB, g0, g1]) | with_reducible refine Gst.now ?_ | with_reducible refine vawp_draw mixed (by kernel_rfl) ?_ | with_reducible first | refine lwV_out ?_ | refine lwV_out0 ?_ | refine lkC_out ?_ | refine And.intro (by omega) ?_ | fail)
      refine ⟨j', hj', ⟨rfl, by rw [htk, List.length_append, hll]⟩, ?_⟩
      rw [htk, List.map_append]
    · repeat (first | (simp (maxSteps := 1000000) only [↓reduceIte, go_sem, g0, g1, g5, g6]) | (simp (maxSteps := 1000000) (disch := first | omega | assumption) only [BB, g0, g1, g5, g6]) | with_reducible refine Gst.now ?_ | with_reducible refine vawp_draw mixed (by kernel_rfl) ?_ | with_reducible first | refine lwV_out ?_ | refine lwV_out0 ?_ | refine lkC_out ?_ | refine And.intro (by omega) ?_ | fail)
      refine hq _ _ ?_
      repeat (first | (simp (maxSteps := 1000000) only [↓reduceIte, go_sem]) | (simp (maxSteps := 1000000) (disch := first | omega | assumption) only [BB]) | with_reducible refine Gst.now ?_ | with_reducible refine vawp_draw mixed (by kernel_rfl) ?_ | with_reducible first | refine lwV_out ?_ | refine lwV_out0 ?_ | refine lkC_out ?_ | refine And.intro (by omega) ?_ | fail)
      have hi : i = fs.length := by omega
      subst hi
      rw [List.take_length]
      refine .own1 (hset_at _ _ _) ?_
      repeat (first | (simp (maxSteps := 1000000) only [↓reduceIte, go_sem]) | (simp (maxSteps := 1000000) (disch := first | omega | assumption) only [BB]) | with_reducible refine Gst.now ?_ | with_reducible refine vawp_draw mixed (by kernel_rfl) ?_ | with_reducible first | refine lwV_out ?_ | refine lwV_out0 ?_ | refine lkC_out ?_ | refine And.intro (by omega) ?_ | fail)
      exact hK
theorem leN_take {bs : List Nat} {i : Nat} (hi : i < bs.length) : leN (bs.take (i + 1)) = leN (bs.take i) + 256 ^ i * bs.getD i 0 := by
  rw [List.take_succ_eq_append_getElem hi, leN_append, List.length_take, Nat.min_eq_left (by omega), List.getD_eq_getElem?_getD, List.getElem?_eq_getElem hi]
  simp [leN]
theorem rget7_v {l : Nat} {nl : Bool} {bs : List Nat} (hl : l = bs.length) (hbl : bs.length ≤ 140737488355328) (hb : IsBy bs) (hK : K (.sc (.int .u64 ((leN (bs.take 8) : Nat)))) h) : VC Try.prog GL (n + 1) 35 [.isl nl l (bs.map (iv .u8))] h K := by
  refine VC_go Try.func35 rfl (by decide) Try.ntmps35 Try.results35 rfl fun Q hq hn => ?_
  subst hl
  repeat (first | (simp (maxSteps := 1000000) only [↓reduceIte, go_sem]) | (simp (maxSteps := 1000000) (disch := first | omega | assumption) only [BB]) | with_reducible refine Gst.now ?_ | with_reducible refine vawp_draw mixed (by kernel_rfl) ?_ | with_reducible first | refine lwV_out ?_ | refine lwV_out0 ?_ | refine lkC_out ?_ | refine And.intro (by omega) ?_ | fail)
  refine vawp_loop (k := min bs.length 8) (fun k ρ h1 => ∃ i : Nat, k + i = min bs.length 8 ∧ ρ 0 = .isl nl bs.length (bs.map (iv .u8)) ∧ ρ 3 = (.sc (.int .u64 ((leN (bs.take i) : Nat)))) ∧ ρ 4 = (.sc (.int .u64 ((256 ^ i % 18446744073709551616 : Nat)))) ∧ ρ 5 = (.sc (.int .i64 (i))) ∧ h1 = h) ?_ ?_
  · refine ⟨0, by omega, ?_⟩
    repeat (first | (simp (maxSteps := 1000000) only [↓reduceIte, go_sem]) | (simp (maxSteps := 1000000) (disch := first | omega | assumption) only [BB]) | with_reducible refine Gst.now ?_ | with_reducible refine vawp_draw mixed (by kernel_rfl) ?_ | with_reducible first | refine lwV_out ?_ | refine lwV_out0 ?_ | refine lkC_out ?_ | refine And.intro (by omega) ?_ | fail)
    rfl
  · rintro k ρ h1 ⟨i, hki, g0, g3, g4, g5, rfl⟩
    by_cases his : i < bs.length ∧ i < 8
    · have e1 := eq_true his.1
      have e2 := eq_true his.2
      have hp0 : 256 ^ i ≤ 256 ^ 7 := Nat.pow_le_pow_right (by omega) (by omega)
      have hp : 256 ^ i ≤ 72057594037927936 := hp0
      have hpm : 256 ^ i % 18446744073709551616 = 256 ^ i := Nat.mod_eq_of_lt (by omega)
      rw [hpm] at g4
      have htk := leN_take his.1
      have hlt := leN_lt (hb.take (i + 1))
      have hlt2 := leN_lt (hb.take i)
      have hle0 : 256 ^ ((bs.take (i + 1)).length) ≤ 256 ^ 8 := Nat.pow_le_pow_right (by omega) (by rw [List.length_take]; omega)
      have hle : 256 ^ ((bs.take (i + 1)).length) ≤ 18446744073709551616 := hle0
      clear hle0 hp0
      have hc := hb.getD i
      have hps : 256 ^ (i + 1) = 256 ^ i * 256 := Nat.pow_succ _ _
      generalize leN (bs.take i) = y at *
      generalize hc' : bs.getD i 0 = c at *
      generalize 256 ^ i = P at *
      have hPc : P * c ≤ P * 255 := Nat.mul_le_mul_left _ (by omega)
      repeat (first | (simp (maxSteps := 1000000) only [↓reduceIte, go_sem, g0, g3, g4, g5, e1, e2, hc']) | (simp (maxSteps := 1000000) (disch := first | omega | assumption) only [BB, g0, g3, g4, g5, e1, e2, hc']) | with_reducible refine Gst.now ?_ | with_reducible refine vawp_draw mixed (by kernel_rfl) ?_ | with_reducible first | refine lwV_out ?_ | refine lwV_out0 ?_ | refine lkC_out ?_ | refine And.intro (by omega) ?_ | fail)
      refine ⟨k - 1, by omega, i + 1, by omega, ?_, ?_, rfl⟩
      · rw [htk, Nat.mul_comm c, IntKind.wrap_u64, IntKind.wrap_u64]
        generalize P * c = z at *
        omega
      · rw [hps, IntKind.wrap_u64]
        omega
    · by_cases his1 : i < bs.length
      · have e1 := eq_true his1
        have e2 := eq_false (show ¬ i < 8 by omega)
        repeat (first | (simp (maxSteps := 1000000) only [↓reduceIte, go_sem, g0, g3, g4, g5, e1, e2]) | (simp (maxSteps := 1000000) (disch := first | omega | assumption) only [BB, g0, g3, g4, g5, e1, e2]) | with_reducible refine Gst.now ?_ | with_reducible refine vawp_draw mixed (by kernel_rfl) ?_ | with_reducible first | refine lwV_out ?_ | refine lwV_out0 ?_ | refine lkC_out ?_ | refine And.intro (by omega) ?_ | fail)
        refine hq _ _ ?_
        repeat (first | (simp (maxSteps := 1000000) only [↓reduceIte, go_sem]) | (simp (maxSteps := 1000000) (disch := first | omega | assumption) only [BB]) | with_reducible refine Gst.now ?_ | with_reducible refine vawp_draw mixed (by kernel_rfl) ?_ | with_reducible first | refine lwV_out ?_ | refine lwV_out0 ?_ | refine lkC_out ?_ | refine And.intro (by omega) ?_ | fail)
        have hi : i = 8 := by omega
        subst hi
        exact .now hK
      · have e1 := eq_false his1
        repeat (first | (simp (maxSteps := 1000000) only [↓reduceIte, go_sem, g0, g3, g4, g5, e1]) | (simp (maxSteps := 1000000) (disch := first | omega | assumption) only [BB, g0, g3, g4, g5, e1]) | with_reducible refine Gst.now ?_ | with_reducible refine vawp_draw mixed (by kernel_rfl) ?_ | with_reducible first | refine lwV_out ?_ | refine lwV_out0 ?_ | refine lkC_out ?_ | refine And.intro (by omega) ?_ | fail)
        refine hq _ _ ?_
        repeat (first | (simp (maxSteps := 1000000) only [↓reduceIte, go_sem]) | (simp (maxSteps := 1000000) (disch := first | omega | assumption) only [BB]) | with_reducible refine Gst.now ?_ | with_reducible refine vawp_draw mixed (by kernel_rfl) ?_ | with_reducible first | refine lwV_out ?_ | refine lwV_out0 ?_ | refine lkC_out ?_ | refine And.intro (by omega) ?_ | fail)
        have hi : i = bs.length := by omega
        subst hi
        rw [List.take_of_length_le (i := 8) (by omega)] at hK
        rw [List.take_length]
        exact .now hK
end
end Go.Proofs.Ytcdjaihaalaepaa.VRef07
