/- package bits over the machine of values: the writer's and the reader's other steps. -/
import Derived.Test.YtnnemehejldchaaProg
import Derived.Test.YtnnemehejldchaaAbV9
import Derived.Test.YtnnemehejldchaaAbFacts
import Derived.Test.YtnnemehejldchaaAbBitsM
import Derived.Test.YtnnemehejldchaaAbVBits
import Derived.Test.YtnnemehejldchaaAbVBits2
import Derived.KernelRfl
import Derived.Laws.BitsAllLaws
set_option linter.unusedVariables false
set_option linter.unusedSimpArgs false
set_option maxRecDepth 100000
set_option maxHeartbeats 4000000
namespace Go.Proofs.Ytnnemehejldchaa.VBits3
open Go.RowKit Go.Proofs.AbM Go.Proofs.Ytnnemehejldchaa.Facts Go.Proofs.Ytnnemehejldchaa.BitsM Go.Proofs.Ytnnemehejldchaa.VBits Go.Proofs.Ytnnemehejldchaa.VBits2
attribute [local go_sem] vawp_skip_eq vawp_seq_eq vawp_region_eq vawp_cond_ite vawp_block_eq vawp_exit_eq vawp_ret_eq thenV_ret thenV_exit thenV_normal inBlockV_normal inBlockV_ret inBlockV_exit resKV_nil resKV_tmp resKV_cell oneV_one oneV_nil oneV_more initV_nil initV_cons updV_at evv_tmp evv_func evv_global evv_int evv_bool evv_str evv_snil evv_pnil evv_agg ofV3_int ofV3_bool ofV3_str ofV3_snil ofV3_pnil vok_tmp vok_func vok_global vok_int vok_bool vok_str vok_snil vok_pnil vok_agg cloV3_int cloV3_bool cloV3_str cloV3_snil cloV3_pnil voks_nil voks_cons scV_int scV_bool scV_str isBlV_b isBV_t isBV_f lwV_none lwV_sc lwV_agg lwV_tup lwV_isl lwV_own lwV_op lwV_ip lwV_fn lwV_junk vops_nil vops_n vops_s gsN_eq vop dstOk_some dstOk_none pkV_b blkV_set eRead_f eRead_t vLoad_op vLoad_ip vStore_op cells_sc cells_isl cells_own cells_op cells_ip cells_fn cells_agg parts_sc parts_isl parts_own parts_op parts_ip parts_fn parts_agg one_sc one_isl one_own one_op one_ip one_fn vField_op vField_ip ePart_f ePart_t vFieldV_agg vIx_isl vIx_own vIx_op vIx_ip vIxV_agg vIxV_str vLen_str vLen_isl vLen_own vLen_agg bndE_none bndE_int vSlice_isl vSlice_str vBin_add vBin_sub vBin_mul vBin_quo vBin_rem vBin_and vBin_or vBin_xor vBin_andNot vBin_eql vBin_neq vBin_lss vBin_leq vBin_gtr vBin_geq vBin_shr_i8 vBin_shl_i8 vBin_shr_i16 vBin_shl_i16 vBin_shr_i32 vBin_shl_i32 vBin_shr_i64 vBin_shl_i64 vBin_shr_u8 vBin_shl_u8 vBin_shr_u16 vBin_shl_u16 vBin_shr_u32 vBin_shl_u32 vBin_shr_u64 vBin_shl_u64 vBin_seq vBin_sne vBin_isln vBin_opn vBin_ipn ex_sc ex_sc2 ex_sc3 ex_tup calleeV wSc_pb wSc_pi wSc_not wSc_neg wSc_com wSc_min2 wSc_max2 vfold_nil vfold_one vfold_cons vfill_nil vfill_e eFill_s vBuild vBox vAlloc setV_map setV_zs setV_zn setV_s hset_hset eConv_ss vConv_e iv_eq ivI_eq ex_get ex_getI set_iv set_ivI okNil isNilV isSlV hdel_at hset_at List.map_toArray List.map_cons List.map_nil List.nil_append List.cons_append List.append_nil List.toList_toArray List.getElem?_toArray List.getElem_toArray List.getElem_cons_zero List.getElem_cons_succ List.getElem?_cons_zero List.getElem?_cons_succ List.set_cons_zero List.set_cons_succ List.set_set List.length_cons List.length_nil List.length_set List.length_map List.all_cons List.all_nil List.drop_zero List.drop_succ_cons List.take_succ_cons List.take_zero List.flatMap_cons Bool.and_eq_true true_and and_true if_true if_false ite_true ite_false forall_eq' forall_eq exists_eq_left exists_eq_left' exists_eq' Value.bool.injEq Value.int.injEq Value.string.injEq Value.pointer.injEq Option.some.injEq AV.sc.injEq AV.op.injEq AV.ip.injEq AV.own.injEq AV.agg.injEq VB.cells.injEq VB.iter.injEq Prod.mk.injEq decide_eq_true_eq decide_eq_false_iff_not Nat.reduceEqDiff Nat.reduceLT Nat.reduceLeDiff Nat.reduceSub Nat.reduceBEq reduceIte Int.reduceLE Int.reduceLT Int.reduceToNat Int.reduceNeg Int.reduceEq Int.reduceNe Int.cast_ofNat_Int Nat.reduceMul Nat.reduceAdd Nat.reduceDiv Nat.reduceMod Nat.reducePow Int.reduceSub Int.reduceAdd Int.reduceMul Int.reducePow Option.isSome_some Option.isSome_none Option.bind_some Option.map_some Option.map_none Option.toList_some Option.toList_none true_or or_true or_false false_or Bool.not_true Bool.not_false Bool.not_eq_true Bool.false_eq_true Bool.not_not false_implies true_implies implies_true Nat.zero_add Nat.add_zero Nat.mul_one Bool.not_eq_true' Bool.true_eq_false Bool.and_true Bool.true_and Bool.and_false Bool.false_and Bool.or_true Bool.true_or Bool.or_false Bool.false_or Option.isNone_some Option.isNone_none Int.reduceBEq Int.reduceBNe beq_self_eq_true bne_self_eq_false beq_iff_eq not_false_eq_true not_true_eq_false Decidable.not_not bne_iff_ne ne_eq Int.toNat_natCast gt_lt ge_le c_add c_mul c_sub c_addn c_nadd c_muln c_nmul c_subn c_nsub c_divn c_modn c_div c_mod c_tdivn c_tmodn c_tdiv c_tmod c_pow c_nn c_beq c_beqn c_bne c_bnen wr64 wr32 wru64 wru32 wru16 wru8 c_if c_lt c_le c_eq c_ltn c_len c_nlt c_nle c_eqn m_drop m_take Nat.add_sub_cancel_left Nat.add_sub_cancel Int.reduceTMod Int.reduceTDiv Int.reduceMod Int.reduceDiv isC_some hset_ne hdel_ne hdel_hset hdel_hset_ne blkV_nset blkV_ndel hset_hdel
attribute [local go_sem high] vops_pk vops_mv vops_as vops_smv
attribute [local go_sem] ag3 sz3 zc3 ik3 ag4 sz4 zc4 ag5 sz5 zc5 ik5 ag9 sz9 zc9 iq9 ag22 sz22 el22 zc22 is22 ag25 sz25 el25 zc25 is25 ag27 sz27 zc27 bo27 ag28 sz28 zc28 ik28 ag30 sz30 zc30 bo30 ag32 sz32 zc32 pt32 ag49 sz49 zc49 pt49 ag54 sz54 zc54 bo54 of27_0 fd27_0 of27_1 fd27_1 of30_0 fd30_0 of30_1 fd30_1 of30_2 fd30_2 of30_3 fd30_3 of54_0 fd54_0 of54_1 fd54_1 eqb neb
section
variable {n : Nat} {h h0 : VH} {K : AV → VH → Prop}
theorem clone_v {nl : Bool} {l : Nat} {xs : List Nat} (hl : l = xs.length) (hnl : nl = true → xs = []) (hb : xs.length ≤ 140737488355328) (hK : K (.isl nl l (xs.map (iv .u8))) h) : VC Try.prog GL (n + 1) 31 [.isl nl l (xs.map (iv .u8))] h K := by
  refine VC_go Try.func31 rfl (by decide) Try.ntmps31 Try.results31 rfl fun Q hq hn => ?_
  subst hl
  repeat (first | simp (disch := first | omega | assumption) only [↓reduceIte, go_sem] | with_reducible refine Gst.now ?_ | with_reducible refine vawp_draw mixed (by kernel_rfl) ?_ | with_reducible first | refine lwV_out ?_ | refine lwV_out0 ?_ | refine And.intro (by omega) ?_ | fail)
  cases nl with
  | true =>
    have := hnl rfl
    subst this
    repeat (first | simp (disch := first | omega | assumption) only [↓reduceIte, go_sem] | with_reducible refine Gst.now ?_ | with_reducible refine vawp_draw mixed (by kernel_rfl) ?_ | with_reducible first | refine lwV_out ?_ | refine lwV_out0 ?_ | refine And.intro (by omega) ?_ | fail)
    refine hq _ _ ?_
    repeat (first | simp (disch := first | omega | assumption) only [↓reduceIte, go_sem] | with_reducible refine Gst.now ?_ | with_reducible refine vawp_draw mixed (by kernel_rfl) ?_ | with_reducible first | refine lwV_out ?_ | refine lwV_out0 ?_ | refine And.intro (by omega) ?_ | fail)
    exact .now hK
  | false =>
    repeat (first | simp (disch := first | omega | assumption) only [↓reduceIte, go_sem] | with_reducible refine Gst.now ?_ | with_reducible refine vawp_draw mixed (by kernel_rfl) ?_ | with_reducible first | refine lwV_out ?_ | refine lwV_out0 ?_ | refine And.intro (by omega) ?_ | fail)
    refine vBuildS_o bs25 ?_ ?_ ?_ ?_ ?_
    rfl
    rfl
    rfl
    rfl
    intro j hj
    repeat (first | simp (disch := first | omega | assumption) only [↓reduceIte, go_sem] | with_reducible refine Gst.now ?_ | with_reducible refine vawp_draw mixed (by kernel_rfl) ?_ | with_reducible first | refine lwV_out ?_ | refine lwV_out0 ?_ | refine And.intro (by omega) ?_ | fail)
    apply vApp_own_isl ap25 (by simp only [go_sem])
    case hv => first | (simp []; done) | (simp []; omega)
    case hj => repeat (first | exact hset_at _ _ _ | assumption | refine (hset_ne _ _ (by first | omega | assumption)).trans ?_ | refine (hdel_ne _ (by first | omega | assumption)).trans ?_ | fail)
    case hl => first | (simp []; done) | (simp []; omega)
    case h1 => first | omega | (simp []; omega) | (simp []; done)
    case h2 => first | omega | (simp []; omega) | (simp []; done)
    intro j' hj'
    simp (disch := first | omega | assumption) only [go_sem, hset_none, hdel_none] at hj'
    try simp (disch := first | omega | assumption) only [hset_none, hdel_none] at hj'
    repeat (first | simp (disch := first | omega | assumption) only [↓reduceIte, go_sem] | with_reducible refine Gst.now ?_ | with_reducible refine vawp_draw mixed (by kernel_rfl) ?_ | with_reducible first | refine lwV_out ?_ | refine lwV_out0 ?_ | refine And.intro (by omega) ?_ | fail)
    refine hq _ _ ?_
    repeat (first | simp (disch := first | omega | assumption) only [↓reduceIte, go_sem] | with_reducible refine Gst.now ?_ | with_reducible refine vawp_draw mixed (by kernel_rfl) ?_ | with_reducible first | refine lwV_out ?_ | refine lwV_out0 ?_ | refine And.intro (by omega) ?_ | fail)
    refine .own1 (hset_at _ _ _) ?_
    repeat (first | simp (disch := first | omega | assumption) only [↓reduceIte, go_sem] | with_reducible refine Gst.now ?_ | with_reducible refine vawp_draw mixed (by kernel_rfl) ?_ | with_reducible first | refine lwV_out ?_ | refine lwV_out0 ?_ | refine And.intro (by omega) ?_ | fail)
    exact hK
theorem clone_own {j : Nat} {e : TypeId} {nl : Bool} {xs : List Nat} (hj : h j = some (.cells e nl (xs.map (iv .u8)))) (hnl : nl = true → xs = []) (hb : xs.length ≤ 140737488355328) (hK : K (.isl nl xs.length (xs.map (iv .u8))) h) : VC Try.prog GL (n + 1) 31 [.own j 0 xs.length] h K := by
  refine VC_go Try.func31 rfl (by decide) Try.ntmps31 Try.results31 rfl fun Q hq hn => ?_
  repeat (first | simp (disch := first | omega | assumption) only [↓reduceIte, go_sem] | with_reducible refine Gst.now ?_ | with_reducible refine vawp_draw mixed (by kernel_rfl) ?_ | with_reducible first | refine lwV_out ?_ | refine lwV_out0 ?_ | refine And.intro (by omega) ?_ | fail)
  refine vBin_own us25 hj ?_
  cases nl with
  | true =>
    have := hnl rfl
    subst this
    repeat (first | simp (disch := first | omega | assumption) only [↓reduceIte, go_sem] | with_reducible refine Gst.now ?_ | with_reducible refine vawp_draw mixed (by kernel_rfl) ?_ | with_reducible first | refine lwV_out ?_ | refine lwV_out0 ?_ | refine And.intro (by omega) ?_ | fail)
    refine hq _ _ ?_
    repeat (first | simp (disch := first | omega | assumption) only [↓reduceIte, go_sem] | with_reducible refine Gst.now ?_ | with_reducible refine vawp_draw mixed (by kernel_rfl) ?_ | with_reducible first | refine lwV_out ?_ | refine lwV_out0 ?_ | refine And.intro (by omega) ?_ | fail)
    exact .now hK
  | false =>
    repeat (first | simp (disch := first | omega | assumption) only [↓reduceIte, go_sem] | with_reducible refine Gst.now ?_ | with_reducible refine vawp_draw mixed (by kernel_rfl) ?_ | with_reducible first | refine lwV_out ?_ | refine lwV_out0 ?_ | refine And.intro (by omega) ?_ | fail)
    refine vBuildS_o bs25 ?_ ?_ ?_ ?_ ?_
    rfl
    rfl
    rfl
    rfl
    intro j1 hj1
    repeat (first | simp (disch := first | omega | assumption) only [↓reduceIte, go_sem] | with_reducible refine Gst.now ?_ | with_reducible refine vawp_draw mixed (by kernel_rfl) ?_ | with_reducible first | refine lwV_out ?_ | refine lwV_out0 ?_ | refine And.intro (by omega) ?_ | fail)
    have hne : j ≠ j1 := by rintro rfl; rw [hj] at hj1; cases hj1
    refine vApp_own ap25 (hset_at _ _ _) rfl ⟨⟨_, us25⟩, rfl, e, false, _, (hset_ne _ _ hne).trans hj, by simp, rfl⟩ (by omega) (by omega) fun j' hj' => ?_
    simp (disch := first | omega | assumption) only [go_sem, hset_none, hdel_none] at hj'
    try simp (disch := first | omega | assumption) only [hset_none, hdel_none] at hj'
    repeat (first | simp (disch := first | omega | assumption) only [↓reduceIte, go_sem] | with_reducible refine Gst.now ?_ | with_reducible refine vawp_draw mixed (by kernel_rfl) ?_ | with_reducible first | refine lwV_out ?_ | refine lwV_out0 ?_ | refine And.intro (by omega) ?_ | fail)
    refine hq _ _ ?_
    repeat (first | simp (disch := first | omega | assumption) only [↓reduceIte, go_sem] | with_reducible refine Gst.now ?_ | with_reducible refine vawp_draw mixed (by kernel_rfl) ?_ | with_reducible first | refine lwV_out ?_ | refine lwV_out0 ?_ | refine And.intro (by omega) ?_ | fail)
    refine .own1 (hset_at _ _ _) ?_
    repeat (first | simp (disch := first | omega | assumption) only [↓reduceIte, go_sem, hdel_hset hj'] | with_reducible refine Gst.now ?_ | with_reducible refine vawp_draw mixed (by kernel_rfl) ?_ | with_reducible first | refine lwV_out ?_ | refine lwV_out0 ?_ | refine And.intro (by omega) ?_ | fail)
    have : ((xs.map (iv .u8)).take xs.length) = xs.map (iv .u8) := List.take_of_length_le (by simp)
    rwa [List.take_length]
theorem put_v {j v : Nat} {X : List Nat} {m : Int} (hw : WrH h0 j X h) (hX : IsBits X) (hl : X.length < 4294967000) (hv : v < 4294967296) (hK : ∀ h', WrH h0 j (X ++ lowBits v (hs32 m)) h' → K (.tup []) h') : VC Try.prog GL (n + 2) 10 [.op j 0, (.sc (.int .u32 (v))), (.sc (.int .i64 (m)))] h K := by
  refine VC_go Try.func10 rfl (by decide) Try.ntmps10 Try.results10 rfl fun Q hq hn => ?_
  repeat (first | simp (disch := first | omega | assumption) only [↓reduceIte, go_sem] | with_reducible refine Gst.now ?_ | with_reducible refine vawp_draw mixed (by kernel_rfl) ?_ | with_reducible first | refine lwV_out ?_ | refine lwV_out0 ?_ | refine And.intro (by omega) ?_ | fail)
  with_reducible refine call_ok ?_
  refine held_v ?_
  have hm : hs32 m ≤ 32 := by unfold hs32; omega
  generalize hs32 m = N at *
  repeat (first | simp (disch := first | omega | assumption) only [↓reduceIte, go_sem] | with_reducible refine Gst.now ?_ | with_reducible refine vawp_draw mixed (by kernel_rfl) ?_ | with_reducible first | refine lwV_out ?_ | refine lwV_out0 ?_ | refine And.intro (by omega) ?_ | fail)
  refine vawp_loop (k := N) (fun k ρ h1 => ∃ i : Nat, k + i = N ∧ ρ 0 = .op j 0 ∧ ρ 1 = (.sc (.int .u32 ((v / 2 ^ i : Nat)))) ∧ ρ 7 = (.sc (.int .i64 (N))) ∧ ρ 8 = (.sc (.int .i64 (i))) ∧ WrH h0 j (X ++ lowBits v i) h1) ?_ ?_
  · refine ⟨0, rfl, ?_⟩
    repeat (first | simp (disch := first | omega | assumption) only [↓reduceIte, go_sem] | with_reducible refine Gst.now ?_ | with_reducible refine vawp_draw mixed (by kernel_rfl) ?_ | with_reducible first | refine lwV_out ?_ | refine lwV_out0 ?_ | refine And.intro (by omega) ?_ | fail)
    simp only [Nat.pow_zero, Nat.div_one, lowBits, List.append_nil]
    exact hw
  · rintro k ρ h1 ⟨i, hki, g0, g1, g7, g8, hW⟩
    repeat (first | simp (disch := first | omega | assumption) only [↓reduceIte, go_sem, g0, g1, g7, g8] | with_reducible refine Gst.now ?_ | with_reducible refine vawp_draw mixed (by kernel_rfl) ?_ | with_reducible first | refine lwV_out ?_ | refine lwV_out0 ?_ | refine And.intro (by omega) ?_ | fail)
    split
    · repeat (first | simp (disch := first | omega | assumption) only [↓reduceIte, go_sem, g0, g1, g7, g8] | with_reducible refine Gst.now ?_ | with_reducible refine vawp_draw mixed (by kernel_rfl) ?_ | with_reducible first | refine lwV_out ?_ | refine lwV_out0 ?_ | refine And.intro (by omega) ?_ | fail)
      have hvi : v / 2 ^ i < 4294967296 := Nat.lt_of_le_of_lt (Nat.div_le_self _ _) hv
      with_reducible refine call_ok ?_
      refine bit_v hW (IsBits.append hX (lowBits_bits v i)) (by rw [List.length_append, lowBits_len]; omega) hvi fun h2 hW2 => ?_
      repeat (first | simp (disch := first | omega | assumption) only [↓reduceIte, go_sem, g0, g1, g7, g8] | with_reducible refine Gst.now ?_ | with_reducible refine vawp_draw mixed (by kernel_rfl) ?_ | with_reducible first | refine lwV_out ?_ | refine lwV_out0 ?_ | refine And.intro (by omega) ?_ | fail)
      refine ⟨k - 1, by omega, i + 1, by omega, ?_⟩
      repeat (first | simp (disch := first | omega | assumption) only [↓reduceIte, go_sem, g0, g7] | with_reducible refine Gst.now ?_ | with_reducible refine vawp_draw mixed (by kernel_rfl) ?_ | with_reducible first | refine lwV_out ?_ | refine lwV_out0 ?_ | refine And.intro (by omega) ?_ | fail)
      refine ⟨?_, ?_⟩
      · rw [Nat.pow_succ, ← Nat.div_div_eq_div_mul]
      · rw [lowBits, ← List.append_assoc]; exact hW2
    · have hi : i = N := by omega
      subst hi
      refine hn _ _ ?_
      repeat (first | simp (disch := first | omega | assumption) only [↓reduceIte, go_sem] | with_reducible refine Gst.now ?_ | with_reducible refine vawp_draw mixed (by kernel_rfl) ?_ | with_reducible first | refine lwV_out ?_ | refine lwV_out0 ?_ | refine And.intro (by omega) ?_ | fail)
      exact .now (hK _ hW)
theorem code_v {j v : Nat} {X : List Nat} {m : Int} (hw : WrH h0 j X h) (hX : IsBits X) (hl : X.length < 4294967000) (hv : v < 4294967296) (hK : ∀ h', WrH h0 j (X ++ codeTo v (hs32 m) (hs32 m)) h' → K (.tup []) h') : VC Try.prog GL (n + 2) 9 [.op j 0, (.sc (.int .u32 (v))), (.sc (.int .i64 (m)))] h K := by
  refine VC_go Try.func9 rfl (by decide) Try.ntmps9 Try.results9 rfl fun Q hq hn => ?_
  repeat (first | simp (disch := first | omega | assumption) only [↓reduceIte, go_sem] | with_reducible refine Gst.now ?_ | with_reducible refine vawp_draw mixed (by kernel_rfl) ?_ | with_reducible first | refine lwV_out ?_ | refine lwV_out0 ?_ | refine And.intro (by omega) ?_ | fail)
  with_reducible refine call_ok ?_
  refine held_v ?_
  have hm : hs32 m ≤ 32 := by unfold hs32; omega
  generalize hs32 m = N at *
  repeat (first | simp (disch := first | omega | assumption) only [↓reduceIte, go_sem] | with_reducible refine Gst.now ?_ | with_reducible refine vawp_draw mixed (by kernel_rfl) ?_ | with_reducible first | refine lwV_out ?_ | refine lwV_out0 ?_ | refine And.intro (by omega) ?_ | fail)
  refine vawp_loop (k := N) (fun k ρ h1 => ∃ i : Nat, k + i = N ∧ ρ 0 = .op j 0 ∧ ρ 1 = (.sc (.int .u32 (v))) ∧ ρ 6 = (.sc (.int .i64 ((k : Int) - 1))) ∧ WrH h0 j (X ++ codeTo v N i) h1) ?_ ?_
  · refine ⟨0, rfl, ?_⟩
    repeat (first | simp (disch := first | omega | assumption) only [↓reduceIte, go_sem] | with_reducible refine Gst.now ?_ | with_reducible refine vawp_draw mixed (by kernel_rfl) ?_ | with_reducible first | refine lwV_out ?_ | refine lwV_out0 ?_ | refine And.intro (by omega) ?_ | fail)
    simp only [codeTo, List.append_nil]
    exact hw
  · rintro k ρ h1 ⟨i, hki, g0, g1, g6, hW⟩
    repeat (first | simp (disch := first | omega | assumption) only [↓reduceIte, go_sem, g0, g1, g6] | with_reducible refine Gst.now ?_ | with_reducible refine vawp_draw mixed (by kernel_rfl) ?_ | with_reducible first | refine lwV_out ?_ | refine lwV_out0 ?_ | refine And.intro (by omega) ?_ | fail)
    split
    · obtain ⟨k, rfl⟩ : ∃ k', k = k' + 1 := ⟨k - 1, by omega⟩
      have e0 : ((k + 1 : Nat) : Int) - 1 = (k : Int) := by omega
      rw [e0] at g6
      repeat (first | simp (disch := first | omega | assumption) only [↓reduceIte, go_sem, g0, g1, g6] | with_reducible refine Gst.now ?_ | with_reducible refine vawp_draw mixed (by kernel_rfl) ?_ | with_reducible first | refine lwV_out ?_ | refine lwV_out0 ?_ | refine And.intro (by omega) ?_ | fail)
      have hvi : v / 2 ^ k < 4294967296 := Nat.lt_of_le_of_lt (Nat.div_le_self _ _) hv
      with_reducible refine call_ok ?_
      refine bit_v hW (IsBits.append hX (codeTo_bits v N i)) (by rw [List.length_append, codeTo_len]; omega) hvi fun h2 hW2 => ?_
      repeat (first | simp (disch := first | omega | assumption) only [↓reduceIte, go_sem, g0, g1, g6] | with_reducible refine Gst.now ?_ | with_reducible refine vawp_draw mixed (by kernel_rfl) ?_ | with_reducible first | refine lwV_out ?_ | refine lwV_out0 ?_ | refine And.intro (by omega) ?_ | fail)
      refine ⟨k, by omega, i + 1, by omega, ?_⟩
      repeat (first | simp (disch := first | omega | assumption) only [↓reduceIte, go_sem, g0, g1] | with_reducible refine Gst.now ?_ | with_reducible refine vawp_draw mixed (by kernel_rfl) ?_ | with_reducible first | refine lwV_out ?_ | refine lwV_out0 ?_ | refine And.intro (by omega) ?_ | fail)
      rw [codeTo, show N - 1 - i = k by omega, ← List.append_assoc]
      exact hW2
    · have hi : i = N := by omega
      subst hi
      refine hn _ _ ?_
      repeat (first | simp (disch := first | omega | assumption) only [↓reduceIte, go_sem] | with_reducible refine Gst.now ?_ | with_reducible refine vawp_draw mixed (by kernel_rfl) ?_ | with_reducible first | refine lwV_out ?_ | refine lwV_out0 ?_ | refine And.intro (by omega) ?_ | fail)
      exact .now (hK _ hW)
/-- A writer of which the bytes are known, and its number of bits is set anew. -/
theorem align_v0 {j : Nat} {X : List Nat} {nn : Int} (h1 : h0 j = none) (hh : (X = [] ∧ h = hset h0 j (.cells 27 false [.isl true 0 [], (.sc (.int .i64 (nn)))])) ∨
   ∃ jb nl, jb ≠ j ∧ h0 jb = none ∧ (nl = true → packB X = []) ∧ h = hset (hset h0 jb (.cells 5 nl ((packB X).map (iv .u8)))) j (.cells 27 false [.own jb 0 (packB X).length, (.sc (.int .i64 (nn)))])) (hl : X.length < 4294967000)
    (hK : ∀ h', WrH h0 j (padB X) h' → K (.tup []) h') : VC Try.prog GL (n + 1) 19 [.op j 0] h K := by
  refine VC_go Try.func19 rfl (by decide) Try.ntmps19 Try.results19 rfl fun Q hq hn => ?_
  have e1 : 8 * (packB X).length = (padB X).length := by rw [padB_len, packB_len]
  have e2 : (padB X).length < 4294967100 := by rw [padB_len]; omega
  rcases hh with ⟨rfl, rfl⟩ | ⟨jb, nl, h2, h3, h4, rfl⟩
  · repeat (first | simp (disch := first | omega | assumption) only [↓reduceIte, go_sem] | with_reducible refine Gst.now ?_ | with_reducible refine vawp_draw mixed (by kernel_rfl) ?_ | with_reducible first | refine lwV_out ?_ | refine lwV_out0 ?_ | refine And.intro (by omega) ?_ | fail)
    refine hn _ _ ?_
    repeat (first | simp (disch := first | omega | assumption) only [↓reduceIte, go_sem] | with_reducible refine Gst.now ?_ | with_reducible refine vawp_draw mixed (by kernel_rfl) ?_ | with_reducible first | refine lwV_out ?_ | refine lwV_out0 ?_ | refine And.intro (by omega) ?_ | fail)
    exact .now (hK _ ⟨h1, .inl ⟨rfl, rfl⟩⟩)
  · repeat (first | simp (disch := first | omega | assumption) only [↓reduceIte, go_sem, e1] | with_reducible refine Gst.now ?_ | with_reducible refine vawp_draw mixed (by kernel_rfl) ?_ | with_reducible first | refine lwV_out ?_ | refine lwV_out0 ?_ | refine And.intro (by omega) ?_ | fail)
    refine hn _ _ ?_
    repeat (first | simp (disch := first | omega | assumption) only [↓reduceIte, go_sem] | with_reducible refine Gst.now ?_ | with_reducible refine vawp_draw mixed (by kernel_rfl) ?_ | with_reducible first | refine lwV_out ?_ | refine lwV_out0 ?_ | refine And.intro (by omega) ?_ | fail)
    exact .now (hK _ ⟨h1, .inr ⟨jb, nl, h2, h3, by rw [packB_pad]; exact h4, by rw [packB_pad]⟩⟩)
theorem align_v {j : Nat} {X : List Nat} (hw : WrH h0 j X h) (hl : X.length < 4294967000) (hK : ∀ h', WrH h0 j (padB X) h' → K (.tup []) h') : VC Try.prog GL (n + 1) 19 [.op j 0] h K := align_v0 hw.1 hw.2 hl hK
theorem done_v {j : Nat} {X : List Nat} (hw : WrH h0 j X h) (hl : X.length < 4294967000) (hK : ∀ nl, (nl = true → packB X = []) → K (.isl nl (packB X).length ((packB X).map (iv .u8))) h) : VC Try.prog GL (n + 2) 12 [.op j 0] h K := by
  refine VC_go Try.func12 rfl (by decide) Try.ntmps12 Try.results12 rfl fun Q hq hn => ?_
  obtain ⟨h1, ⟨rfl, rfl⟩ | ⟨jb, nl, h2, h3, h4, rfl⟩⟩ := hw
  · repeat (first | simp (disch := first | omega | assumption) only [↓reduceIte, go_sem] | with_reducible refine Gst.now ?_ | with_reducible refine vawp_draw mixed (by kernel_rfl) ?_ | with_reducible first | refine lwV_out ?_ | refine lwV_out0 ?_ | refine And.intro (by omega) ?_ | fail)
    with_reducible refine call_ok ?_
    refine clone_v (xs := []) rfl (fun _ => rfl) (by simp) ?_
    repeat (first | simp (disch := first | omega | assumption) only [↓reduceIte, go_sem] | with_reducible refine Gst.now ?_ | with_reducible refine vawp_draw mixed (by kernel_rfl) ?_ | with_reducible first | refine lwV_out ?_ | refine lwV_out0 ?_ | refine And.intro (by omega) ?_ | fail)
    refine hq _ _ ?_
    repeat (first | simp (disch := first | omega | assumption) only [↓reduceIte, go_sem] | with_reducible refine Gst.now ?_ | with_reducible refine vawp_draw mixed (by kernel_rfl) ?_ | with_reducible first | refine lwV_out ?_ | refine lwV_out0 ?_ | refine And.intro (by omega) ?_ | fail)
    exact .now (hK true fun _ => rfl)
  · repeat (first | simp (disch := first | omega | assumption) only [↓reduceIte, go_sem] | with_reducible refine Gst.now ?_ | with_reducible refine vawp_draw mixed (by kernel_rfl) ?_ | with_reducible first | refine lwV_out ?_ | refine lwV_out0 ?_ | refine And.intro (by omega) ?_ | fail)
    with_reducible refine call_ok ?_
    refine clone_own ((hset_ne _ _ h2).trans (hset_at _ _ _)) h4 (by rw [packB_len]; omega) ?_
    repeat (first | simp (disch := first | omega | assumption) only [↓reduceIte, go_sem] | with_reducible refine Gst.now ?_ | with_reducible refine vawp_draw mixed (by kernel_rfl) ?_ | with_reducible first | refine lwV_out ?_ | refine lwV_out0 ?_ | refine And.intro (by omega) ?_ | fail)
    refine hq _ _ ?_
    repeat (first | simp (disch := first | omega | assumption) only [↓reduceIte, go_sem] | with_reducible refine Gst.now ?_ | with_reducible refine vawp_draw mixed (by kernel_rfl) ?_ | with_reducible first | refine lwV_out ?_ | refine lwV_out0 ?_ | refine And.intro (by omega) ?_ | fail)
    exact .now (hK nl h4)
theorem wbytes_v {j l : Nat} {X bs : List Nat} {nl2 : Bool} (hw : WrH h0 j X h) (hl : X.length < 4294960000) (hb : ∀ b ∈ bs, b < 256) (hbl : bs.length < 800) (hbn : l = bs.length) (hK : ∀ h', WrH h0 j (padB X ++ bitsOf bs) h' → K (.tup []) h') : VC Try.prog GL (n + 2) 21 [.op j 0, .isl nl2 l (bs.map (iv .u8))] h K := by
  refine VC_go Try.func21 rfl (by decide) Try.ntmps21 Try.results21 rfl fun Q hq hn => ?_
  subst hbn
  repeat (first | simp (disch := first | omega | assumption) only [↓reduceIte, go_sem] | with_reducible refine Gst.now ?_ | with_reducible refine vawp_draw mixed (by kernel_rfl) ?_ | with_reducible first | refine lwV_out ?_ | refine lwV_out0 ?_ | refine And.intro (by omega) ?_ | fail)
  with_reducible refine call_ok ?_
  refine align_v hw (by omega) fun h2 hw2 => ?_
  have hq8 : packB (padB X ++ bitsOf bs) = packB (padB X) ++ bs := by rw [packB_append _ _ (padB_len X), packB_bitsOf hb]
  have hfull : padB (padB X ++ bitsOf bs) = padB X ++ bitsOf bs := padB_full (q := (X.length + 7) / 8 + bs.length) (by rw [List.length_append, padB_len, bitsOf_len]; omega)
  have hXl : (padB X ++ bitsOf bs).length < 4294967000 := by rw [List.length_append, padB_len, bitsOf_len]; omega
  have hpl : (packB (padB X)).length < 4294967000 := by rw [packB_pad, packB_len]; omega
  obtain ⟨h1, ⟨he, rfl⟩ | ⟨jb, nl, h2, h3, h4, rfl⟩⟩ := hw2
  · repeat (first | simp (disch := first | omega | assumption) only [↓reduceIte, go_sem] | with_reducible refine Gst.now ?_ | with_reducible refine vawp_draw mixed (by kernel_rfl) ?_ | with_reducible first | refine lwV_out ?_ | refine lwV_out0 ?_ | refine And.intro (by omega) ?_ | fail)
    by_cases hb0 : bs = []
    · subst hb0
      apply vApp_nil_isl ap25 (by simp only [go_sem])
      case hv => first | (simp []; done) | (simp []; omega)
      case h1 => first | omega | (simp []; omega) | (simp []; done)
      case h2 => first | omega | (simp []; omega) | (simp []; done)
      try (case hK0 => first | (intro hh; omega) | (intro hh; exact absurd hh (by decide)))
      · intro _
        repeat (first | simp (disch := first | omega | assumption) only [↓reduceIte, go_sem] | with_reducible refine Gst.now ?_ | with_reducible refine vawp_draw mixed (by kernel_rfl) ?_ | with_reducible first | refine lwV_out ?_ | refine lwV_out0 ?_ | refine And.intro (by omega) ?_ | fail)
        with_reducible refine call_ok ?_
        refine align_v0 (X := padB X ++ bitsOf []) h1 (.inl ⟨by rw [he]; rfl, rfl⟩) hXl fun h5 hw5 => ?_
        repeat (first | simp (disch := first | omega | assumption) only [↓reduceIte, go_sem] | with_reducible refine Gst.now ?_ | with_reducible refine vawp_draw mixed (by kernel_rfl) ?_ | with_reducible first | refine lwV_out ?_ | refine lwV_out0 ?_ | refine And.intro (by omega) ?_ | fail)
        refine hn _ _ ?_
        repeat (first | simp (disch := first | omega | assumption) only [↓reduceIte, go_sem] | with_reducible refine Gst.now ?_ | with_reducible refine vawp_draw mixed (by kernel_rfl) ?_ | with_reducible first | refine lwV_out ?_ | refine lwV_out0 ?_ | refine And.intro (by omega) ?_ | fail)
        rw [hfull] at hw5
        exact .now (hK _ hw5)
      · intro hh; exact absurd rfl hh
    · have hbp : bs.length ≠ 0 := fun hh => hb0 (List.eq_nil_of_length_eq_zero hh)
      apply vApp_nil_isl ap25 (by simp only [go_sem])
      case hv => first | (simp []; done) | (simp []; omega)
      case h1 => first | omega | (simp []; omega) | (simp []; done)
      case h2 => first | omega | (simp []; omega) | (simp []; done)
      try (case hK0 => first | (intro hh; omega) | (intro hh; exact absurd hh (by decide)))
      intro _ jb hjb
      simp (disch := first | omega | assumption) only [go_sem, hset_none, hdel_none] at hjb
      try simp (disch := first | omega | assumption) only [hset_none, hdel_none] at hjb
      repeat (first | simp (disch := first | omega | assumption) only [↓reduceIte, go_sem] | with_reducible refine Gst.now ?_ | with_reducible refine vawp_draw mixed (by kernel_rfl) ?_ | with_reducible first | refine lwV_out ?_ | refine lwV_out0 ?_ | refine And.intro (by omega) ?_ | fail)
      have e8 : packB (padB X) = [] := by rw [he]; rfl
      rw [e8, List.nil_append] at hq8
      with_reducible refine call_ok ?_
      refine align_v0 (X := padB X ++ bitsOf bs) h1 (.inr ⟨jb, false, hjb.1, hjb.2, fun e => (by cases e), by rw [hq8, hset_comm hjb.1, hset_hset]⟩) hXl fun h5 hw5 => ?_
      repeat (first | simp (disch := first | omega | assumption) only [↓reduceIte, go_sem] | with_reducible refine Gst.now ?_ | with_reducible refine vawp_draw mixed (by kernel_rfl) ?_ | with_reducible first | refine lwV_out ?_ | refine lwV_out0 ?_ | refine And.intro (by omega) ?_ | fail)
      refine hn _ _ ?_
      repeat (first | simp (disch := first | omega | assumption) only [↓reduceIte, go_sem] | with_reducible refine Gst.now ?_ | with_reducible refine vawp_draw mixed (by kernel_rfl) ?_ | with_reducible first | refine lwV_out ?_ | refine lwV_out0 ?_ | refine And.intro (by omega) ?_ | fail)
      rw [hfull] at hw5
      exact .now (hK _ hw5)
  · repeat (first | simp (disch := first | omega | assumption) only [↓reduceIte, go_sem] | with_reducible refine Gst.now ?_ | with_reducible refine vawp_draw mixed (by kernel_rfl) ?_ | with_reducible first | refine lwV_out ?_ | refine lwV_out0 ?_ | refine And.intro (by omega) ?_ | fail)
    apply vApp_own_isl ap25 (by simp only [go_sem])
    case hv => first | (simp []; done) | (simp []; omega)
    case hj => repeat (first | exact hset_at _ _ _ | assumption | refine (hset_ne _ _ (by first | omega | assumption)).trans ?_ | refine (hdel_ne _ (by first | omega | assumption)).trans ?_ | fail)
    case hl => first | (simp []; done) | (simp []; omega)
    case h1 => first | omega | (simp []; omega) | (simp []; done)
    case h2 => first | omega | (simp []; omega) | (simp []; done)
    intro jb' hjb
    simp (disch := first | omega | assumption) only [go_sem, hset_none, hdel_none] at hjb
    try simp (disch := first | omega | assumption) only [hset_none, hdel_none] at hjb
    repeat (first | simp (disch := first | omega | assumption) only [↓reduceIte, go_sem] | with_reducible refine Gst.now ?_ | with_reducible refine vawp_draw mixed (by kernel_rfl) ?_ | with_reducible first | refine lwV_out ?_ | refine lwV_out0 ?_ | refine And.intro (by omega) ?_ | fail)
    with_reducible refine call_ok ?_
    refine align_v0 (X := padB X ++ bitsOf bs) h1 (.inr ⟨jb', nl && bs.length == 0, hjb.1, hjb.2, ?_, by rw [hq8, hset_comm hjb.1, hset_hset, List.length_append, List.map_append]⟩) hXl fun h5 hw5 => ?_
    · intro hh
      rw [Bool.and_eq_true] at hh
      rw [hq8, h4 hh.1, List.eq_nil_of_length_eq_zero (l := bs) (by simpa using hh.2)]; rfl
    · repeat (first | simp (disch := first | omega | assumption) only [↓reduceIte, go_sem] | with_reducible refine Gst.now ?_ | with_reducible refine vawp_draw mixed (by kernel_rfl) ?_ | with_reducible first | refine lwV_out ?_ | refine lwV_out0 ?_ | refine And.intro (by omega) ?_ | fail)
      refine hn _ _ ?_
      repeat (first | simp (disch := first | omega | assumption) only [↓reduceIte, go_sem] | with_reducible refine Gst.now ?_ | with_reducible refine vawp_draw mixed (by kernel_rfl) ?_ | with_reducible first | refine lwV_out ?_ | refine lwV_out0 ?_ | refine And.intro (by omega) ?_ | fail)
      rw [hfull] at hw5
      exact .now (hK _ hw5)
/-! ### the reader -/
theorem bread_v {l : Nat} {nl : Bool} {bs : List Nat} (hl : l = bs.length) (hK : ∀ j, h j = none → K (.op j 0) (hset h j (.cells 54 false (RdB nl bs 0)))) : VC Try.prog GL (n + 1) 11 [.isl nl l (bs.map (iv .u8))] h K := by
  refine VC_go Try.func11 rfl (by decide) Try.ntmps11 Try.results11 rfl fun Q hq hn => ?_
  subst hl
  repeat (first | simp (disch := first | omega | assumption) only [↓reduceIte, go_sem] | with_reducible refine Gst.now ?_ | with_reducible refine vawp_draw mixed (by kernel_rfl) ?_ | with_reducible first | refine lwV_out ?_ | refine lwV_out0 ?_ | refine And.intro (by omega) ?_ | fail)
  intro j hj
  repeat (first | simp (disch := first | omega | assumption) only [↓reduceIte, go_sem] | with_reducible refine Gst.now ?_ | with_reducible refine vawp_draw mixed (by kernel_rfl) ?_ | with_reducible first | refine lwV_out ?_ | refine lwV_out0 ?_ | refine And.intro (by omega) ?_ | fail)
  refine hq _ _ ?_
  repeat (first | simp (disch := first | omega | assumption) only [↓reduceIte, go_sem] | with_reducible refine Gst.now ?_ | with_reducible refine vawp_draw mixed (by kernel_rfl) ?_ | with_reducible first | refine lwV_out ?_ | refine lwV_out0 ?_ | refine And.intro (by omega) ?_ | fail)
  exact .now (hK j hj)
theorem rbit_v {j a : Nat} {nl : Bool} {bs : List Nat} (hr : blkV h j = some (54, RdB nl bs a)) (hb : ∀ b ∈ bs, b < 256) (ha : a ≤ 8 * bs.length) (hl : bs.length < 400000000)
    (hK1 : 8 * bs.length ≤ a → K (.tup [(.sc (.int .u32 (0))), (.sc (.bool (false)))]) h)
    (hK2 : a < 8 * bs.length → K (.tup [(.sc (.int .u32 (((bitsOf bs).getD a 0 : Nat)))), (.sc (.bool (true)))]) (hset h j (.cells 54 false (RdB nl bs (a + 1))))) : VC Try.prog GL (n + 3) 14 [.op j 0] h K := by
  refine VC_go Try.func14 rfl (by decide) Try.ntmps14 Try.results14 rfl fun Q hq hn => ?_
  repeat (first | simp (disch := first | omega | assumption) only [↓reduceIte, go_sem] | with_reducible refine Gst.now ?_ | with_reducible refine vawp_draw mixed (by kernel_rfl) ?_ | with_reducible first | refine lwV_out ?_ | refine lwV_out0 ?_ | refine And.intro (by omega) ?_ | fail)
  have h1 : hs32 1 = 1 := rfl
  with_reducible refine call_ok ?_
  refine get_v hr hb ha hl (fun hh => ?_) fun hh => ?_
  · rw [h1] at hh
    repeat (first | simp (disch := first | omega | assumption) only [↓reduceIte, go_sem] | with_reducible refine Gst.now ?_ | with_reducible refine vawp_draw mixed (by kernel_rfl) ?_ | with_reducible first | refine lwV_out ?_ | refine lwV_out0 ?_ | refine And.intro (by omega) ?_ | fail)
    refine hq _ _ ?_
    repeat (first | simp (disch := first | omega | assumption) only [↓reduceIte, go_sem] | with_reducible refine Gst.now ?_ | with_reducible refine vawp_draw mixed (by kernel_rfl) ?_ | with_reducible first | refine lwV_out ?_ | refine lwV_out0 ?_ | refine And.intro (by omega) ?_ | fail)
    exact .now (hK1 (by omega))
  · rw [h1] at hh
    have e : numB (((bitsOf bs).drop a).take (hs32 1)) = (bitsOf bs).getD a 0 := by
      rw [h1, List.drop_eq_getElem_cons (by rw [bitsOf_len]; omega), List.take_succ_cons, List.take_zero, List.getD_eq_getElem?_getD, List.getElem?_eq_getElem (by rw [bitsOf_len]; omega)]
      simp [numB]
    rw [e, h1]
    repeat (first | simp (disch := first | omega | assumption) only [↓reduceIte, go_sem] | with_reducible refine Gst.now ?_ | with_reducible refine vawp_draw mixed (by kernel_rfl) ?_ | with_reducible first | refine lwV_out ?_ | refine lwV_out0 ?_ | refine And.intro (by omega) ?_ | fail)
    refine hq _ _ ?_
    repeat (first | simp (disch := first | omega | assumption) only [↓reduceIte, go_sem] | with_reducible refine Gst.now ?_ | with_reducible refine vawp_draw mixed (by kernel_rfl) ?_ | with_reducible first | refine lwV_out ?_ | refine lwV_out0 ?_ | refine And.intro (by omega) ?_ | fail)
    exact .now (hK2 (by omega))
theorem ralign_v {j a : Nat} {nl : Bool} {bs : List Nat} (hr : blkV h j = some (54, RdB nl bs a)) (ha : a < 4294967000) (hK : K (.tup []) (hset h j (.cells 54 false (RdB nl bs ((a + 7) / 8 * 8))))) : VC Try.prog GL (n + 1) 27 [.op j 0] h K := by
  refine VC_go Try.func27 rfl (by decide) Try.ntmps27 Try.results27 rfl fun Q hq hn => ?_
  repeat (first | simp (disch := first | omega | assumption) only [↓reduceIte, go_sem, hr, RdB] | with_reducible refine Gst.now ?_ | with_reducible refine vawp_draw mixed (by kernel_rfl) ?_ | with_reducible first | refine lwV_out ?_ | refine lwV_out0 ?_ | refine And.intro (by omega) ?_ | fail)
  refine hn _ _ ?_
  repeat (first | simp (disch := first | omega | assumption) only [↓reduceIte, go_sem] | with_reducible refine Gst.now ?_ | with_reducible refine vawp_draw mixed (by kernel_rfl) ?_ | with_reducible first | refine lwV_out ?_ | refine lwV_out0 ?_ | refine And.intro (by omega) ?_ | fail)
  exact .now hK
theorem rat_v {j a : Nat} {nl : Bool} {bs : List Nat} (hr : blkV h j = some (54, RdB nl bs a)) (hK : K (.sc (.int .i64 ((a : Nat)))) h) : VC Try.prog GL (n + 1) 15 [.op j 0] h K := by
  refine VC_go Try.func15 rfl (by decide) Try.ntmps15 Try.results15 rfl fun Q hq hn => ?_
  repeat (first | simp (disch := first | omega | assumption) only [↓reduceIte, go_sem, hr, RdB] | with_reducible refine Gst.now ?_ | with_reducible refine vawp_draw mixed (by kernel_rfl) ?_ | with_reducible first | refine lwV_out ?_ | refine lwV_out0 ?_ | refine And.intro (by omega) ?_ | fail)
  refine hq _ _ ?_
  repeat (first | simp (disch := first | omega | assumption) only [↓reduceIte, go_sem] | with_reducible refine Gst.now ?_ | with_reducible refine vawp_draw mixed (by kernel_rfl) ?_ | with_reducible first | refine lwV_out ?_ | refine lwV_out0 ?_ | refine And.intro (by omega) ?_ | fail)
  exact .now hK
theorem rbytes_v {j a : Nat} {nl : Bool} {bs : List Nat} {m : Int} (hr : blkV h j = some (54, RdB nl bs a)) (ha : a ≤ 8 * bs.length) (hl : bs.length < 400000000) (hnl : nl = true → bs = [])
    (hK1 : bs.length < (a + 7) / 8 + m.toNat → K (.tup [.isl true 0 [], (.sc (.bool (false)))]) (hset h j (.cells 54 false (RdB nl bs ((a + 7) / 8 * 8)))))
    (hK2 : (a + 7) / 8 + m.toNat ≤ bs.length → K (.tup [.isl nl m.toNat (((bs.drop ((a + 7) / 8)).take m.toNat).map (iv .u8)), (.sc (.bool (true)))]) (hset h j (.cells 54 false (RdB nl bs ((a + 7) / 8 * 8 + 8 * m.toNat))))) : VC Try.prog GL (n + 2) 28 [.op j 0, (.sc (.int .i64 (m)))] h K := by
  refine VC_go Try.func28 rfl (by decide) Try.ntmps28 Try.results28 rfl fun Q hq hn => ?_
  repeat (first | simp (disch := first | omega | assumption) only [↓reduceIte, go_sem] | with_reducible refine Gst.now ?_ | with_reducible refine vawp_draw mixed (by kernel_rfl) ?_ | with_reducible first | refine lwV_out ?_ | refine lwV_out0 ?_ | refine And.intro (by omega) ?_ | fail)
  with_reducible refine call_ok ?_
  refine ralign_v hr (by omega) ?_
  have em : (if m < 0 then 0 else m) = (m.toNat : Int) := by split <;> omega
  have e8 : (a + 7) / 8 * 8 / 8 = (a + 7) / 8 := by omega
  have hqb : (a + 7) / 8 ≤ bs.length := by omega
  generalize (a + 7) / 8 = q at *
  repeat (first | simp (disch := first | omega | assumption) only [↓reduceIte, go_sem, RdB, em, e8] | with_reducible refine Gst.now ?_ | with_reducible refine vawp_draw mixed (by kernel_rfl) ?_ | with_reducible first | refine lwV_out ?_ | refine lwV_out0 ?_ | refine And.intro (by omega) ?_ | fail)
  split
  · repeat (first | simp (disch := first | omega | assumption) only [↓reduceIte, go_sem] | with_reducible refine Gst.now ?_ | with_reducible refine vawp_draw mixed (by kernel_rfl) ?_ | with_reducible first | refine lwV_out ?_ | refine lwV_out0 ?_ | refine And.intro (by omega) ?_ | fail)
    refine hq _ _ ?_
    repeat (first | simp (disch := first | omega | assumption) only [↓reduceIte, go_sem] | with_reducible refine Gst.now ?_ | with_reducible refine vawp_draw mixed (by kernel_rfl) ?_ | with_reducible first | refine lwV_out ?_ | refine lwV_out0 ?_ | refine And.intro (by omega) ?_ | fail)
    exact .now (hK1 (by omega))
  · repeat (first | simp (disch := first | omega | assumption) only [↓reduceIte, go_sem, RdB] | with_reducible refine Gst.now ?_ | with_reducible refine vawp_draw mixed (by kernel_rfl) ?_ | with_reducible first | refine lwV_out ?_ | refine lwV_out0 ?_ | refine And.intro (by omega) ?_ | fail)
    with_reducible refine call_ok ?_
    refine clone_v (by rw [List.length_take, List.length_drop]; omega) (fun e => by rw [hnl e]; simp) (by rw [List.length_take, List.length_drop]; omega) ?_
    repeat (first | simp (disch := first | omega | assumption) only [↓reduceIte, go_sem] | with_reducible refine Gst.now ?_ | with_reducible refine vawp_draw mixed (by kernel_rfl) ?_ | with_reducible first | refine lwV_out ?_ | refine lwV_out0 ?_ | refine And.intro (by omega) ?_ | fail)
    refine hq _ _ ?_
    repeat (first | simp (disch := first | omega | assumption) only [↓reduceIte, go_sem] | with_reducible refine Gst.now ?_ | with_reducible refine vawp_draw mixed (by kernel_rfl) ?_ | with_reducible first | refine lwV_out ?_ | refine lwV_out0 ?_ | refine And.intro (by omega) ?_ | fail)
    exact .now (hK2 (by omega))
end
end Go.Proofs.Ytnnemehejldchaa.VBits3
