/- the reference's rows of bits, over the machine of values. -/
import Derived.Test.YtnnemehejldchaaProg
import Derived.Test.YtnnemehejldchaaAbV9
import Derived.Test.YtnnemehejldchaaAbFacts
import Derived.Test.YtnnemehejldchaaAbBitsM
import Derived.Test.YtnnemehejldchaaAbVBits
import Derived.KernelRfl
import Derived.Laws.BitsAllLaws
set_option linter.unusedVariables false
set_option linter.unusedSimpArgs false
set_option maxRecDepth 100000
set_option maxHeartbeats 4000000
namespace Go.Proofs.Ytnnemehejldchaa.VBits4
open Go.RowKit Go.Proofs.AbM Go.Proofs.Ytnnemehejldchaa.Facts Go.Proofs.Ytnnemehejldchaa.BitsM Go.Proofs.Ytnnemehejldchaa.VBits
attribute [local go_sem] vawp_skip_eq vawp_seq_eq vawp_region_eq vawp_cond_ite vawp_block_eq vawp_exit_eq vawp_ret_eq thenV_ret thenV_exit thenV_normal inBlockV_normal inBlockV_ret inBlockV_exit resKV_nil resKV_tmp resKV_cell oneV_one oneV_nil oneV_more initV_nil initV_cons updV_at evv_tmp evv_func evv_global evv_int evv_bool evv_str evv_snil evv_pnil evv_agg ofV3_int ofV3_bool ofV3_str ofV3_snil ofV3_pnil vok_tmp vok_func vok_global vok_int vok_bool vok_str vok_snil vok_pnil vok_agg cloV3_int cloV3_bool cloV3_str cloV3_snil cloV3_pnil voks_nil voks_cons scV_int scV_bool scV_str isBlV_b isBV_t isBV_f lwV_none lwV_sc lwV_agg lwV_tup lwV_isl lwV_own lwV_op lwV_ip lwV_fn lwV_junk vops_nil vops_n vops_s gsN_eq vop dstOk_some dstOk_none pkV_b blkV_set eRead_f eRead_t vLoad_op vLoad_ip vStore_op cells_sc cells_isl cells_own cells_op cells_ip cells_fn cells_agg parts_sc parts_isl parts_own parts_op parts_ip parts_fn parts_agg one_sc one_isl one_own one_op one_ip one_fn vField_op vField_ip ePart_f ePart_t vFieldV_agg vIx_isl vIx_own vIx_op vIx_ip vIxV_agg vIxV_str vLen_str vLen_isl vLen_own vLen_agg bndE_none bndE_int vSlice_isl vSlice_str vBin_add vBin_sub vBin_mul vBin_quo vBin_rem vBin_and vBin_or vBin_xor vBin_andNot vBin_eql vBin_neq vBin_lss vBin_leq vBin_gtr vBin_geq vBin_shr_i8 vBin_shl_i8 vBin_shr_i16 vBin_shl_i16 vBin_shr_i32 vBin_shl_i32 vBin_shr_i64 vBin_shl_i64 vBin_shr_u8 vBin_shl_u8 vBin_shr_u16 vBin_shl_u16 vBin_shr_u32 vBin_shl_u32 vBin_shr_u64 vBin_shl_u64 vBin_seq vBin_sne vBin_isln vBin_opn vBin_ipn ex_sc ex_sc2 ex_sc3 ex_tup calleeV wSc_pb wSc_pi wSc_not wSc_neg wSc_com wSc_min2 wSc_max2 vfold_nil vfold_one vfold_cons vfill_nil vfill_e eFill_s vBuild vBox vAlloc setV_map setV_zs setV_zn setV_s hset_hset eConv_ss vConv_e iv_eq ivI_eq ex_get ex_getI set_iv set_ivI okNil isNilV isSlV hdel_at hset_at List.map_toArray List.map_cons List.map_nil List.nil_append List.cons_append List.append_nil List.toList_toArray List.getElem?_toArray List.getElem_toArray List.getElem_cons_zero List.getElem_cons_succ List.getElem?_cons_zero List.getElem?_cons_succ List.set_cons_zero List.set_cons_succ List.set_set List.length_cons List.length_nil List.length_set List.length_map List.all_cons List.all_nil List.drop_zero List.drop_succ_cons List.take_succ_cons List.take_zero List.flatMap_cons Bool.and_eq_true true_and and_true if_true if_false ite_true ite_false forall_eq' forall_eq exists_eq_left exists_eq_left' exists_eq' Value.bool.injEq Value.int.injEq Value.string.injEq Value.pointer.injEq Option.some.injEq AV.sc.injEq AV.op.injEq AV.ip.injEq AV.own.injEq AV.agg.injEq VB.cells.injEq VB.iter.injEq Prod.mk.injEq decide_eq_true_eq decide_eq_false_iff_not Nat.reduceEqDiff Nat.reduceLT Nat.reduceLeDiff Nat.reduceSub Nat.reduceBEq reduceIte Int.reduceLE Int.reduceLT Int.reduceToNat Int.reduceNeg Int.reduceEq Int.reduceNe Int.cast_ofNat_Int Nat.reduceMul Nat.reduceAdd Nat.reduceDiv Nat.reduceMod Nat.reducePow Int.reduceSub Int.reduceAdd Int.reduceMul Int.reducePow Option.isSome_some Option.isSome_none Option.bind_some Option.map_some Option.map_none Option.toList_some Option.toList_none true_or or_true or_false false_or Bool.not_true Bool.not_false Bool.not_eq_true Bool.false_eq_true Bool.not_not false_implies true_implies implies_true Nat.zero_add Nat.add_zero Nat.mul_one Bool.not_eq_true' Bool.true_eq_false Bool.and_true Bool.true_and Bool.and_false Bool.false_and Bool.or_true Bool.true_or Bool.or_false Bool.false_or Option.isNone_some Option.isNone_none Int.reduceBEq Int.reduceBNe beq_self_eq_true bne_self_eq_false beq_iff_eq not_false_eq_true not_true_eq_false Decidable.not_not bne_iff_ne ne_eq Int.toNat_natCast gt_lt ge_le c_add c_mul c_sub c_addn c_nadd c_muln c_nmul c_subn c_nsub c_divn c_modn c_div c_mod c_tdivn c_tmodn c_tdiv c_tmod c_pow c_nn c_beq c_beqn c_bne c_bnen wr64 wr32 wru64 wru32 wru16 wru8 c_if c_lt c_le c_eq c_ltn c_len c_nlt c_nle c_eqn m_drop m_take Nat.add_sub_cancel_left Nat.add_sub_cancel Int.reduceTMod Int.reduceTDiv Int.reduceMod Int.reduceDiv isC_some hset_ne hdel_ne hdel_hset hdel_hset_ne blkV_nset blkV_ndel hset_hdel
attribute [local go_sem high] vops_pk vops_mv vops_as vops_smv
attribute [local go_sem] ag3 sz3 zc3 ik3 ag4 sz4 zc4 ag5 sz5 zc5 ik5 ag9 sz9 zc9 iq9 ag22 sz22 el22 zc22 is22 ag25 sz25 el25 zc25 is25 ag27 sz27 zc27 bo27 ag28 sz28 zc28 ik28 ag30 sz30 zc30 bo30 ag32 sz32 zc32 pt32 ag49 sz49 zc49 pt49 ag54 sz54 zc54 bo54 of27_0 fd27_0 of27_1 fd27_1 of30_0 fd30_0 of30_1 fd30_1 of30_2 fd30_2 of30_3 fd30_3 of54_0 fd54_0 of54_1 fd54_1 eqb neb
section
variable {n : Nat} {h : VH} {K : AV → VH → Prop}
theorem copy_v {nl : Bool} {l : Nat} {xs : List Nat} (hl : l = xs.length) (hb : xs.length ≤ 140737488355328) (hK : ∀ j, h j = none → FrK K (.own j 0 l) (hset h j (.cells 5 false (xs.map (iv .u8))))) : VC Try.prog GL (n + 1) 32 [.isl nl l (xs.map (iv .u8))] h K := by
  refine VC_go Try.func32 rfl (by decide) Try.ntmps32 Try.results32 rfl fun Q hq hn => ?_
  subst hl
  repeat (first | simp (disch := first | omega | assumption) only [↓reduceIte, go_sem] | with_reducible refine Gst.now ?_ | with_reducible refine vawp_draw mixed (by kernel_rfl) ?_ | with_reducible first | refine lwV_out ?_ | refine lwV_out0 ?_ | refine And.intro (by omega) ?_ | fail)
  refine vBuildS_o bs25 ?_ ?_ ?_ ?_ ?_
  rfl
  rfl
  rfl
  rfl
  intro j hj
  repeat (first | simp (disch := first | omega | assumption) only [↓reduceIte, go_sem] | with_reducible refine Gst.now ?_ | with_reducible refine vawp_draw mixed (by kernel_rfl) ?_ | with_reducible first | refine lwV_out ?_ | refine lwV_out0 ?_ | refine And.intro (by omega) ?_ | fail)
  apply vApp_own_isl ap25 (by simp only [go_sem])
  case hv => first | (simp []; done) | (simp []; omega)
  case hj => repeat (first | exact hset_at _ _ _ | assumption | refine (hset_ne _ _ (by first | omega | assumption)).trans ?_ | refine (hdel_ne _ (by first | omega | assumption)).trans ?_ | fail)
  case hl => first | (simp []; done) | (simp []; omega)
  case h1 => first | omega | (simp []; omega) | (simp []; done)
  case h2 => first | omega | (simp []; omega) | (simp []; done)
  intro j' hj'
  simp (disch := first | omega | assumption) only [go_sem, hset_none, hdel_none] at hj'
  try simp (disch := first | omega | assumption) only [hset_none, hdel_none] at hj'
  repeat (first | simp (disch := first | omega | assumption) only [↓reduceIte, go_sem] | with_reducible refine Gst.now ?_ | with_reducible refine vawp_draw mixed (by kernel_rfl) ?_ | with_reducible first | refine lwV_out ?_ | refine lwV_out0 ?_ | refine And.intro (by omega) ?_ | fail)
  refine hq _ _ ?_
  repeat (first | simp (disch := first | omega | assumption) only [↓reduceIte, go_sem] | with_reducible refine Gst.now ?_ | with_reducible refine vawp_draw mixed (by kernel_rfl) ?_ | with_reducible first | refine lwV_out ?_ | refine lwV_out0 ?_ | refine And.intro (by omega) ?_ | fail)
  exact hK j' hj'
theorem same_v {nl nl2 : Bool} {l l2 : Nat} {xs ys : List Nat} (h1 : l = xs.length) (h2 : l2 = ys.length) (hb : xs.length ≤ 140737488355328) (hb2 : ys.length ≤ 140737488355328) (hK : K (.sc (.bool (decide (xs = ys)))) h) : VC Try.prog GL (n + 1) 23 [.isl nl l (xs.map (iv .u8)), .isl nl2 l2 (ys.map (iv .u8))] h K := by
  refine VC_go Try.func23 rfl (by decide) Try.ntmps23 Try.results23 rfl fun Q hq hn => ?_
  subst h1 h2
  repeat (first | simp (disch := first | omega | assumption) only [↓reduceIte, go_sem] | with_reducible refine Gst.now ?_ | with_reducible refine vawp_draw mixed (by kernel_rfl) ?_ | with_reducible first | refine lwV_out ?_ | refine lwV_out0 ?_ | refine And.intro (by omega) ?_ | fail)
  split
  · rename_i hne
    have e : decide (xs = ys) = false := decide_eq_false (by rintro rfl; exact hne rfl)
    rw [e] at hK
    repeat (first | simp (disch := first | omega | assumption) only [↓reduceIte, go_sem] | with_reducible refine Gst.now ?_ | with_reducible refine vawp_draw mixed (by kernel_rfl) ?_ | with_reducible first | refine lwV_out ?_ | refine lwV_out0 ?_ | refine And.intro (by omega) ?_ | fail)
    refine hq _ _ ?_
    repeat (first | simp (disch := first | omega | assumption) only [↓reduceIte, go_sem] | with_reducible refine Gst.now ?_ | with_reducible refine vawp_draw mixed (by kernel_rfl) ?_ | with_reducible first | refine lwV_out ?_ | refine lwV_out0 ?_ | refine And.intro (by omega) ?_ | fail)
    exact .now hK
  · rename_i he
    simp only [Bool.not_eq_true, Decidable.not_not, ne_eq] at he
    have he : xs.length = ys.length := by omega
    repeat (first | simp (disch := first | omega | assumption) only [↓reduceIte, go_sem] | with_reducible refine Gst.now ?_ | with_reducible refine vawp_draw mixed (by kernel_rfl) ?_ | with_reducible first | refine lwV_out ?_ | refine lwV_out0 ?_ | refine And.intro (by omega) ?_ | fail)
    refine vawp_loop (k := xs.length) (fun k ρ h1 => ∃ i : Nat, k + i = xs.length ∧ ρ 0 = .isl nl xs.length (xs.map (iv .u8)) ∧ ρ 1 = .isl nl2 ys.length (ys.map (iv .u8)) ∧ ρ 5 = (.sc (.int .i64 (i))) ∧ xs.take i = ys.take i ∧ h1 = h) ?_ ?_
    · refine ⟨0, rfl, ?_⟩
      repeat (first | simp (disch := first | omega | assumption) only [↓reduceIte, go_sem] | with_reducible refine Gst.now ?_ | with_reducible refine vawp_draw mixed (by kernel_rfl) ?_ | with_reducible first | refine lwV_out ?_ | refine lwV_out0 ?_ | refine And.intro (by omega) ?_ | fail)
    · rintro k ρ h1 ⟨i, hki, g0, g1, g5, ht, rfl⟩
      repeat (first | simp (disch := first | omega | assumption) only [↓reduceIte, go_sem, g0, g1, g5] | with_reducible refine Gst.now ?_ | with_reducible refine vawp_draw mixed (by kernel_rfl) ?_ | with_reducible first | refine lwV_out ?_ | refine lwV_out0 ?_ | refine And.intro (by omega) ?_ | fail)
      split
      · repeat (first | simp (disch := first | omega | assumption) only [↓reduceIte, go_sem, g0, g1, g5] | with_reducible refine Gst.now ?_ | with_reducible refine vawp_draw mixed (by kernel_rfl) ?_ | with_reducible first | refine lwV_out ?_ | refine lwV_out0 ?_ | refine And.intro (by omega) ?_ | fail)
        split
        · rename_i hne
          have e : decide (xs = ys) = false := decide_eq_false (by rintro rfl; exact hne rfl)
          rw [e] at hK
          repeat (first | simp (disch := first | omega | assumption) only [↓reduceIte, go_sem] | with_reducible refine Gst.now ?_ | with_reducible refine vawp_draw mixed (by kernel_rfl) ?_ | with_reducible first | refine lwV_out ?_ | refine lwV_out0 ?_ | refine And.intro (by omega) ?_ | fail)
          refine hq _ _ ?_
          repeat (first | simp (disch := first | omega | assumption) only [↓reduceIte, go_sem] | with_reducible refine Gst.now ?_ | with_reducible refine vawp_draw mixed (by kernel_rfl) ?_ | with_reducible first | refine lwV_out ?_ | refine lwV_out0 ?_ | refine And.intro (by omega) ?_ | fail)
          exact .now hK
        · rename_i heq
          simp only [Bool.not_eq_true, Decidable.not_not, ne_eq] at heq
          repeat (first | simp (disch := first | omega | assumption) only [↓reduceIte, go_sem, g5] | with_reducible refine Gst.now ?_ | with_reducible refine vawp_draw mixed (by kernel_rfl) ?_ | with_reducible first | refine lwV_out ?_ | refine lwV_out0 ?_ | refine And.intro (by omega) ?_ | fail)
          refine ⟨k - 1, by omega, i + 1, by omega, ?_⟩
          repeat (first | simp (disch := first | omega | assumption) only [↓reduceIte, go_sem, g0, g1] | with_reducible refine Gst.now ?_ | with_reducible refine vawp_draw mixed (by kernel_rfl) ?_ | with_reducible first | refine lwV_out ?_ | refine lwV_out0 ?_ | refine And.intro (by omega) ?_ | fail)
          rw [take_snoc (by omega), take_snoc (by omega), ht]
          congr 2
      · repeat (first | simp (disch := first | omega | assumption) only [↓reduceIte, go_sem] | with_reducible refine Gst.now ?_ | with_reducible refine vawp_draw mixed (by kernel_rfl) ?_ | with_reducible first | refine lwV_out ?_ | refine lwV_out0 ?_ | refine And.intro (by omega) ?_ | fail)
        refine hq _ _ ?_
        repeat (first | simp (disch := first | omega | assumption) only [↓reduceIte, go_sem] | with_reducible refine Gst.now ?_ | with_reducible refine vawp_draw mixed (by kernel_rfl) ?_ | with_reducible first | refine lwV_out ?_ | refine lwV_out0 ?_ | refine And.intro (by omega) ?_ | fail)
        have e : decide (xs = ys) = true := decide_eq_true (by
          have hi : i = xs.length := by omega
          subst hi
          rw [List.take_length, he, List.take_length] at ht
          exact ht)
        rw [e] at hK
        exact .now hK
theorem refHeld_v {a lo hi : Int} (hle : lo ≤ hi) (hK : K (.sc (.int .i64 (max lo (min a hi)))) h) : VC Try.prog GL (n + 1) 26 [(.sc (.int .i64 (a))), (.sc (.int .i64 (lo))), (.sc (.int .i64 (hi)))] h K := by
  refine VC_go Try.func26 rfl (by decide) Try.ntmps26 Try.results26 rfl fun Q hq hn => ?_
  repeat (first | simp (disch := first | omega | assumption) only [↓reduceIte, go_sem] | with_reducible refine Gst.now ?_ | with_reducible refine vawp_draw mixed (by kernel_rfl) ?_ | with_reducible first | refine lwV_out ?_ | refine lwV_out0 ?_ | refine And.intro (by omega) ?_ | fail)
  split
  · repeat (first | simp (disch := first | omega | assumption) only [↓reduceIte, go_sem] | with_reducible refine Gst.now ?_ | with_reducible refine vawp_draw mixed (by kernel_rfl) ?_ | with_reducible first | refine lwV_out ?_ | refine lwV_out0 ?_ | refine And.intro (by omega) ?_ | fail)
    split
    · repeat (first | simp (disch := first | omega | assumption) only [↓reduceIte, go_sem] | with_reducible refine Gst.now ?_ | with_reducible refine vawp_draw mixed (by kernel_rfl) ?_ | with_reducible first | refine lwV_out ?_ | refine lwV_out0 ?_ | refine And.intro (by omega) ?_ | fail)
      refine hq _ _ ?_
      repeat (first | simp (disch := first | omega | assumption) only [↓reduceIte, go_sem] | with_reducible refine Gst.now ?_ | with_reducible refine vawp_draw mixed (by kernel_rfl) ?_ | with_reducible first | refine lwV_out ?_ | refine lwV_out0 ?_ | refine And.intro (by omega) ?_ | fail)
      rw [show max lo (min a hi) = lo by omega] at hK
      exact .now hK
    · repeat (first | simp (disch := first | omega | assumption) only [↓reduceIte, go_sem] | with_reducible refine Gst.now ?_ | with_reducible refine vawp_draw mixed (by kernel_rfl) ?_ | with_reducible first | refine lwV_out ?_ | refine lwV_out0 ?_ | refine And.intro (by omega) ?_ | fail)
      refine hq _ _ ?_
      repeat (first | simp (disch := first | omega | assumption) only [↓reduceIte, go_sem] | with_reducible refine Gst.now ?_ | with_reducible refine vawp_draw mixed (by kernel_rfl) ?_ | with_reducible first | refine lwV_out ?_ | refine lwV_out0 ?_ | refine And.intro (by omega) ?_ | fail)
      rw [show max lo (min a hi) = hi by omega] at hK
      exact .now hK
  · repeat (first | simp (disch := first | omega | assumption) only [↓reduceIte, go_sem] | with_reducible refine Gst.now ?_ | with_reducible refine vawp_draw mixed (by kernel_rfl) ?_ | with_reducible first | refine lwV_out ?_ | refine lwV_out0 ?_ | refine And.intro (by omega) ?_ | fail)
    split
    · repeat (first | simp (disch := first | omega | assumption) only [↓reduceIte, go_sem] | with_reducible refine Gst.now ?_ | with_reducible refine vawp_draw mixed (by kernel_rfl) ?_ | with_reducible first | refine lwV_out ?_ | refine lwV_out0 ?_ | refine And.intro (by omega) ?_ | fail)
      refine hq _ _ ?_
      repeat (first | simp (disch := first | omega | assumption) only [↓reduceIte, go_sem] | with_reducible refine Gst.now ?_ | with_reducible refine vawp_draw mixed (by kernel_rfl) ?_ | with_reducible first | refine lwV_out ?_ | refine lwV_out0 ?_ | refine And.intro (by omega) ?_ | fail)
      rw [show max lo (min a hi) = lo by omega] at hK
      exact .now hK
    · repeat (first | simp (disch := first | omega | assumption) only [↓reduceIte, go_sem] | with_reducible refine Gst.now ?_ | with_reducible refine vawp_draw mixed (by kernel_rfl) ?_ | with_reducible first | refine lwV_out ?_ | refine lwV_out0 ?_ | refine And.intro (by omega) ?_ | fail)
      refine hq _ _ ?_
      repeat (first | simp (disch := first | omega | assumption) only [↓reduceIte, go_sem] | with_reducible refine Gst.now ?_ | with_reducible refine vawp_draw mixed (by kernel_rfl) ?_ | with_reducible first | refine lwV_out ?_ | refine lwV_out0 ?_ | refine And.intro (by omega) ?_ | fail)
      rw [show max lo (min a hi) = a by omega] at hK
      exact .now hK
theorem rput_v {l v : Nat} {nl : Bool} {X : List Nat} {m : Int} (hl : l = X.length) (hb : X.length < 4294967000) (hv : v < 4294967296) (hK : ∀ j, h j = none → FrK K (.own j 0 (X.length + hs32 m)) (hset h j (.cells 5 false ((X ++ lowBits v (hs32 m)).map (iv .u8))))) : VC Try.prog GL (n + 2) 17 [.isl nl l (X.map (iv .u8)), (.sc (.int .u32 (v))), (.sc (.int .i64 (m)))] h K := by
  refine VC_go Try.func17 rfl (by decide) Try.ntmps17 Try.results17 rfl fun Q hq hn => ?_
  subst hl
  repeat (first | simp (disch := first | omega | assumption) only [↓reduceIte, go_sem] | with_reducible refine Gst.now ?_ | with_reducible refine vawp_draw mixed (by kernel_rfl) ?_ | with_reducible first | refine lwV_out ?_ | refine lwV_out0 ?_ | refine And.intro (by omega) ?_ | fail)
  with_reducible refine call_ok ?_
  refine copy_v rfl (by omega) fun j hj => .now ?_
  repeat (first | simp (disch := first | omega | assumption) only [↓reduceIte, go_sem] | with_reducible refine Gst.now ?_ | with_reducible refine vawp_draw mixed (by kernel_rfl) ?_ | with_reducible first | refine lwV_out ?_ | refine lwV_out0 ?_ | refine And.intro (by omega) ?_ | fail)
  refine vawp_loop (k := hs32 m) (fun k ρ h1 => ∃ i : Nat, k + i = hs32 m ∧ ρ 1 = (.sc (.int .u32 ((v / 2 ^ i : Nat)))) ∧ ρ 2 = (.sc (.int .i64 (m))) ∧ ρ 8 = (.sc (.int .i64 (i))) ∧ ∃ j, h j = none ∧ ρ 7 = .own j 0 (X.length + i) ∧ h1 = hset h j (.cells 5 false ((X ++ lowBits v i).map (iv .u8)))) ?_ ?_
  · refine ⟨0, by omega, ?_⟩
    repeat (first | simp (disch := first | omega | assumption) only [↓reduceIte, go_sem] | with_reducible refine Gst.now ?_ | with_reducible refine vawp_draw mixed (by kernel_rfl) ?_ | with_reducible first | refine lwV_out ?_ | refine lwV_out0 ?_ | refine And.intro (by omega) ?_ | fail)
    exact ⟨j, hj, rfl, by rw [lowBits, List.append_nil]⟩
  · rintro k ρ h1 ⟨i, hki, g1, g2, g8, j, hj, g7, rfl⟩
    have hm : hs32 m ≤ 32 := by unfold hs32; omega
    have hll := lowBits_len v i
    have hvi : v / 2 ^ i < 4294967296 := Nat.lt_of_le_of_lt (Nat.div_le_self _ _) hv
    have ew : IntKind.u32.wrap ((v / 2 ^ i / 2 : Nat) : Int) = ((v / 2 ^ i / 2 : Nat) : Int) := by
      generalize v / 2 ^ i = y at *
      exact wru32 (by omega) (by omega)
    repeat (first | simp (disch := first | omega | assumption) only [↓reduceIte, go_sem, g1, g2, g7, g8] | with_reducible refine Gst.now ?_ | with_reducible refine vawp_draw mixed (by kernel_rfl) ?_ | with_reducible first | refine lwV_out ?_ | refine lwV_out0 ?_ | refine And.intro (by omega) ?_ | fail)
    by_cases hlt : (i : Int) < m
    · by_cases h32 : i < 32
      · repeat (first | simp (disch := first | omega | assumption) only [↓reduceIte, go_sem, g1, g2, g7, g8, hlt, h32] | with_reducible refine Gst.now ?_ | with_reducible refine vawp_draw mixed (by kernel_rfl) ?_ | with_reducible first | refine lwV_out ?_ | refine lwV_out0 ?_ | refine And.intro (by omega) ?_ | fail)
        refine vBuildS_i bs25 ?_ ?_ ?_ ?_ ?_
        rfl
        rfl
        rfl
        rfl
        repeat (first | simp (disch := first | omega | assumption) only [↓reduceIte, go_sem] | with_reducible refine Gst.now ?_ | with_reducible refine vawp_draw mixed (by kernel_rfl) ?_ | with_reducible first | refine lwV_out ?_ | refine lwV_out0 ?_ | refine And.intro (by omega) ?_ | fail)
        apply vApp_own_isl ap25 (by simp only [go_sem])
        case hv => first | (simp [hll]; done) | (simp [hll]; omega)
        case hj => repeat (first | exact hset_at _ _ _ | assumption | refine (hset_ne _ _ (by first | omega | assumption)).trans ?_ | refine (hdel_ne _ (by first | omega | assumption)).trans ?_ | fail)
        case hl => first | (simp [hll]; done) | (simp [hll]; omega)
        case h1 => first | omega | (simp [hll]; omega) | (simp [hll]; done)
        case h2 => first | omega | (simp [hll]; omega) | (simp [hll]; done)
        intro j' hj'
        simp (disch := first | omega | assumption) only [go_sem, hset_none, hdel_none] at hj'
        try simp (disch := first | omega | assumption) only [hset_none, hdel_none] at hj'
        repeat (first | simp (disch := first | omega | assumption) only [↓reduceIte, go_sem, g1, g8, ew] | with_reducible refine Gst.now ?_ | with_reducible refine vawp_draw mixed (by kernel_rfl) ?_ | with_reducible first | refine lwV_out ?_ | refine lwV_out0 ?_ | refine And.intro (by omega) ?_ | fail)
        have hi : i < hs32 m := by unfold hs32; omega
        refine ⟨k - 1, by omega, i + 1, by omega, ?_⟩
        repeat (first | simp (disch := first | omega | assumption) only [↓reduceIte, go_sem, g2] | with_reducible refine Gst.now ?_ | with_reducible refine vawp_draw mixed (by kernel_rfl) ?_ | with_reducible first | refine lwV_out ?_ | refine lwV_out0 ?_ | refine And.intro (by omega) ?_ | fail)
        refine ⟨?_, j', hj', ⟨rfl, by omega⟩, ?_⟩
        · rw [Nat.pow_succ, ← Nat.div_div_eq_div_mul]
        · rw [lowBits, ← List.append_assoc, List.map_append (l₁ := X ++ lowBits v i)]
          have : v / 2 ^ i % 2 < 256 := by omega
          rfl
      · have hi : i = hs32 m := by unfold hs32 at *; omega
        repeat (first | simp (disch := first | omega | assumption) only [↓reduceIte, go_sem, g7, hlt, h32] | with_reducible refine Gst.now ?_ | with_reducible refine vawp_draw mixed (by kernel_rfl) ?_ | with_reducible first | refine lwV_out ?_ | refine lwV_out0 ?_ | refine And.intro (by omega) ?_ | fail)
        refine hq _ _ ?_
        repeat (first | simp (disch := first | omega | assumption) only [↓reduceIte, go_sem] | with_reducible refine Gst.now ?_ | with_reducible refine vawp_draw mixed (by kernel_rfl) ?_ | with_reducible first | refine lwV_out ?_ | refine lwV_out0 ?_ | refine And.intro (by omega) ?_ | fail)
        rw [hi]
        exact hK j hj
    · have hi : i = hs32 m := by unfold hs32 at *; omega
      repeat (first | simp (disch := first | omega | assumption) only [↓reduceIte, go_sem, g7, hlt] | with_reducible refine Gst.now ?_ | with_reducible refine vawp_draw mixed (by kernel_rfl) ?_ | with_reducible first | refine lwV_out ?_ | refine lwV_out0 ?_ | refine And.intro (by omega) ?_ | fail)
      refine hq _ _ ?_
      repeat (first | simp (disch := first | omega | assumption) only [↓reduceIte, go_sem] | with_reducible refine Gst.now ?_ | with_reducible refine vawp_draw mixed (by kernel_rfl) ?_ | with_reducible first | refine lwV_out ?_ | refine lwV_out0 ?_ | refine And.intro (by omega) ?_ | fail)
      rw [hi]
      exact hK j hj
theorem rcode_v {l v : Nat} {nl : Bool} {X : List Nat} {m : Int} (hl : l = X.length) (hb : X.length < 4294967000) (hv : v < 4294967296) (hK : ∀ j, h j = none → FrK K (.own j 0 (X.length + hs32 m)) (hset h j (.cells 5 false ((X ++ codeTo v (hs32 m) (hs32 m)).map (iv .u8))))) : VC Try.prog GL (n + 3) 18 [.isl nl l (X.map (iv .u8)), (.sc (.int .u32 (v))), (.sc (.int .i64 (m)))] h K := by
  refine VC_go Try.func18 rfl (by decide) Try.ntmps18 Try.results18 rfl fun Q hq hn => ?_
  subst hl
  have hm : hs32 m ≤ 32 := by unfold hs32; omega
  have hlow := lowBits_len v (hs32 m)
  repeat (first | simp (disch := first | omega | assumption) only [↓reduceIte, go_sem] | with_reducible refine Gst.now ?_ | with_reducible refine vawp_draw mixed (by kernel_rfl) ?_ | with_reducible first | refine lwV_out ?_ | refine lwV_out0 ?_ | refine And.intro (by omega) ?_ | fail)
  with_reducible refine call_ok ?_
  refine rput_v (X := []) rfl (by simp) hv fun j hj => .iso hj ?_
  rw [List.nil_append, List.length_nil, Nat.zero_add]
  have hgetl : ∀ i, i < hs32 m → (lowBits v (hs32 m)).getD i 0 = v / 2 ^ i % 2 := fun i hi => lowBits_get hi
  generalize hN : hs32 m = N at *
  generalize lowBits v N = L at *
  subst hlow
  repeat (first | simp (disch := first | omega | assumption) only [↓reduceIte, go_sem] | with_reducible refine Gst.now ?_ | with_reducible refine vawp_draw mixed (by kernel_rfl) ?_ | with_reducible first | refine lwV_out ?_ | refine lwV_out0 ?_ | refine And.intro (by omega) ?_ | fail)
  with_reducible refine call_ok ?_
  refine copy_v rfl (by omega) fun j hj => .now ?_
  repeat (first | simp (disch := first | omega | assumption) only [↓reduceIte, go_sem] | with_reducible refine Gst.now ?_ | with_reducible refine vawp_draw mixed (by kernel_rfl) ?_ | with_reducible first | refine lwV_out ?_ | refine lwV_out0 ?_ | refine And.intro (by omega) ?_ | fail)
  refine vawp_loop (k := L.length) (fun k ρ h1 => ∃ i : Nat, k + i = L.length ∧ ρ 7 = .isl false L.length (L.map (iv .u8)) ∧ ρ 9 = (.sc (.int .i64 ((k : Int) - 1))) ∧ ∃ j, h j = none ∧ ρ 8 = .own j 0 (X.length + i) ∧ h1 = hset h j (.cells 5 false ((X ++ codeTo v L.length i).map (iv .u8)))) ?_ ?_
  · refine ⟨0, by omega, ?_⟩
    repeat (first | simp (disch := first | omega | assumption) only [↓reduceIte, go_sem] | with_reducible refine Gst.now ?_ | with_reducible refine vawp_draw mixed (by kernel_rfl) ?_ | with_reducible first | refine lwV_out ?_ | refine lwV_out0 ?_ | refine And.intro (by omega) ?_ | fail)
    exact ⟨j, hj, rfl, by rw [codeTo, List.append_nil]⟩
  · rintro k ρ h1 ⟨i, hki, g7, g9, j, hj, g8, rfl⟩
    have hcl := codeTo_len v L.length i
    repeat (first | simp (disch := first | omega | assumption) only [↓reduceIte, go_sem, g7, g8, g9] | with_reducible refine Gst.now ?_ | with_reducible refine vawp_draw mixed (by kernel_rfl) ?_ | with_reducible first | refine lwV_out ?_ | refine lwV_out0 ?_ | refine And.intro (by omega) ?_ | fail)
    split
    · rename_i hge
      obtain ⟨k, rfl⟩ : ∃ k', k = k' + 1 := ⟨k - 1, by omega⟩
      have e0 : ((k + 1 : Nat) : Int) - 1 = (k : Int) := by omega
      rw [e0] at g9
      repeat (first | simp (disch := first | omega | assumption) only [↓reduceIte, go_sem, g7, g8, g9] | with_reducible refine Gst.now ?_ | with_reducible refine vawp_draw mixed (by kernel_rfl) ?_ | with_reducible first | refine lwV_out ?_ | refine lwV_out0 ?_ | refine And.intro (by omega) ?_ | fail)
      refine vBuildS_i bs25 ?_ ?_ ?_ ?_ ?_
      rfl
      rfl
      rfl
      rfl
      repeat (first | simp (disch := first | omega | assumption) only [↓reduceIte, go_sem] | with_reducible refine Gst.now ?_ | with_reducible refine vawp_draw mixed (by kernel_rfl) ?_ | with_reducible first | refine lwV_out ?_ | refine lwV_out0 ?_ | refine And.intro (by omega) ?_ | fail)
      apply vApp_own_isl ap25 (by simp only [go_sem])
      case hv => first | (simp [hcl]; done) | (simp [hcl]; omega)
      case hj => repeat (first | exact hset_at _ _ _ | assumption | refine (hset_ne _ _ (by first | omega | assumption)).trans ?_ | refine (hdel_ne _ (by first | omega | assumption)).trans ?_ | fail)
      case hl => first | (simp [hcl]; done) | (simp [hcl]; omega)
      case h1 => first | omega | (simp [hcl]; omega) | (simp [hcl]; done)
      case h2 => first | omega | (simp [hcl]; omega) | (simp [hcl]; done)
      intro j' hj'
      simp (disch := first | omega | assumption) only [go_sem, hset_none, hdel_none] at hj'
      try simp (disch := first | omega | assumption) only [hset_none, hdel_none] at hj'
      repeat (first | simp (disch := first | omega | assumption) only [↓reduceIte, go_sem, g9] | with_reducible refine Gst.now ?_ | with_reducible refine vawp_draw mixed (by kernel_rfl) ?_ | with_reducible first | refine lwV_out ?_ | refine lwV_out0 ?_ | refine And.intro (by omega) ?_ | fail)
      refine ⟨k, by omega, i + 1, by omega, ?_⟩
      repeat (first | simp (disch := first | omega | assumption) only [↓reduceIte, go_sem, g7] | with_reducible refine Gst.now ?_ | with_reducible refine vawp_draw mixed (by kernel_rfl) ?_ | with_reducible first | refine lwV_out ?_ | refine lwV_out0 ?_ | refine And.intro (by omega) ?_ | fail)
      refine ⟨j', hj', ⟨rfl, by omega⟩, ?_⟩
      rw [codeTo, ← List.append_assoc, List.map_append (l₁ := X ++ codeTo v L.length i), hgetl _ (by omega), show L.length - 1 - i = k by omega]
      rfl
    · rename_i hge
      repeat (first | simp (disch := first | omega | assumption) only [↓reduceIte, go_sem, g8] | with_reducible refine Gst.now ?_ | with_reducible refine vawp_draw mixed (by kernel_rfl) ?_ | with_reducible first | refine lwV_out ?_ | refine lwV_out0 ?_ | refine And.intro (by omega) ?_ | fail)
      refine hq _ _ ?_
      repeat (first | simp (disch := first | omega | assumption) only [↓reduceIte, go_sem] | with_reducible refine Gst.now ?_ | with_reducible refine vawp_draw mixed (by kernel_rfl) ?_ | with_reducible first | refine lwV_out ?_ | refine lwV_out0 ?_ | refine And.intro (by omega) ?_ | fail)
      have hi : i = L.length := by omega
      subst hi
      exact hK j hj
theorem ralign0_v {l : Nat} {nl : Bool} {X : List Nat} (hl : l = X.length) (hb : X.length < 4294967000) (hK : ∀ j, h j = none → FrK K (.own j 0 (padB X).length) (hset h j (.cells 5 false ((padB X).map (iv .u8))))) : VC Try.prog GL (n + 2) 20 [.isl nl l (X.map (iv .u8))] h K := by
  refine VC_go Try.func20 rfl (by decide) Try.ntmps20 Try.results20 rfl fun Q hq hn => ?_
  subst hl
  repeat (first | simp (disch := first | omega | assumption) only [↓reduceIte, go_sem] | with_reducible refine Gst.now ?_ | with_reducible refine vawp_draw mixed (by kernel_rfl) ?_ | with_reducible first | refine lwV_out ?_ | refine lwV_out0 ?_ | refine And.intro (by omega) ?_ | fail)
  with_reducible refine call_ok ?_
  refine copy_v rfl (by omega) fun j hj => .now ?_
  repeat (first | simp (disch := first | omega | assumption) only [↓reduceIte, go_sem] | with_reducible refine Gst.now ?_ | with_reducible refine vawp_draw mixed (by kernel_rfl) ?_ | with_reducible first | refine lwV_out ?_ | refine lwV_out0 ?_ | refine And.intro (by omega) ?_ | fail)
  refine vawp_loop (k := 8 * ((X.length + 7) / 8) - X.length) (fun k ρ h1 => ∃ i : Nat, k + i = 8 * ((X.length + 7) / 8) - X.length ∧ ∃ j, h j = none ∧ ρ 3 = .own j 0 (X.length + i) ∧ h1 = hset h j (.cells 5 false ((X ++ List.replicate i 0).map (iv .u8)))) ?_ ?_
  · refine ⟨0, by omega, ?_⟩
    repeat (first | simp (disch := first | omega | assumption) only [↓reduceIte, go_sem] | with_reducible refine Gst.now ?_ | with_reducible refine vawp_draw mixed (by kernel_rfl) ?_ | with_reducible first | refine lwV_out ?_ | refine lwV_out0 ?_ | refine And.intro (by omega) ?_ | fail)
    exact ⟨j, hj, rfl, by simp⟩
  · rintro k ρ h1 ⟨i, hki, j, hj, g3, rfl⟩
    repeat (first | simp (disch := first | omega | assumption) only [↓reduceIte, go_sem, g3] | with_reducible refine Gst.now ?_ | with_reducible refine vawp_draw mixed (by kernel_rfl) ?_ | with_reducible first | refine lwV_out ?_ | refine lwV_out0 ?_ | refine And.intro (by omega) ?_ | fail)
    split
    · rename_i hne
      repeat (first | simp (disch := first | omega | assumption) only [↓reduceIte, go_sem, g3] | with_reducible refine Gst.now ?_ | with_reducible refine vawp_draw mixed (by kernel_rfl) ?_ | with_reducible first | refine lwV_out ?_ | refine lwV_out0 ?_ | refine And.intro (by omega) ?_ | fail)
      refine vBuildS_i bs25 ?_ ?_ ?_ ?_ ?_
      rfl
      rfl
      rfl
      rfl
      repeat (first | simp (disch := first | omega | assumption) only [↓reduceIte, go_sem] | with_reducible refine Gst.now ?_ | with_reducible refine vawp_draw mixed (by kernel_rfl) ?_ | with_reducible first | refine lwV_out ?_ | refine lwV_out0 ?_ | refine And.intro (by omega) ?_ | fail)
      apply vApp_own_isl ap25 (by simp only [go_sem])
      case hv => first | (simp []; done) | (simp []; omega)
      case hj => repeat (first | exact hset_at _ _ _ | assumption | refine (hset_ne _ _ (by first | omega | assumption)).trans ?_ | refine (hdel_ne _ (by first | omega | assumption)).trans ?_ | fail)
      case hl => first | (simp []; done) | (simp []; omega)
      case h1 => first | omega | (simp []; omega) | (simp []; done)
      case h2 => first | omega | (simp []; omega) | (simp []; done)
      intro j' hj'
      simp (disch := first | omega | assumption) only [go_sem, hset_none, hdel_none] at hj'
      try simp (disch := first | omega | assumption) only [hset_none, hdel_none] at hj'
      repeat (first | simp (disch := first | omega | assumption) only [↓reduceIte, go_sem] | with_reducible refine Gst.now ?_ | with_reducible refine vawp_draw mixed (by kernel_rfl) ?_ | with_reducible first | refine lwV_out ?_ | refine lwV_out0 ?_ | refine And.intro (by omega) ?_ | fail)
      refine ⟨k - 1, by omega, i + 1, by omega, j', hj', ?_⟩
      repeat (first | simp (disch := first | omega | assumption) only [↓reduceIte, go_sem] | with_reducible refine Gst.now ?_ | with_reducible refine vawp_draw mixed (by kernel_rfl) ?_ | with_reducible first | refine lwV_out ?_ | refine lwV_out0 ?_ | refine And.intro (by omega) ?_ | fail)
      rw [List.replicate_succ', ← List.append_assoc, List.map_append (l₁ := X ++ List.replicate i 0)]
      rfl
    · rename_i hne
      repeat (first | simp (disch := first | omega | assumption) only [↓reduceIte, go_sem, g3] | with_reducible refine Gst.now ?_ | with_reducible refine vawp_draw mixed (by kernel_rfl) ?_ | with_reducible first | refine lwV_out ?_ | refine lwV_out0 ?_ | refine And.intro (by omega) ?_ | fail)
      refine hq _ _ ?_
      repeat (first | simp (disch := first | omega | assumption) only [↓reduceIte, go_sem] | with_reducible refine Gst.now ?_ | with_reducible refine vawp_draw mixed (by kernel_rfl) ?_ | with_reducible first | refine lwV_out ?_ | refine lwV_out0 ?_ | refine And.intro (by omega) ?_ | fail)
      have hi : i = 8 * ((X.length + 7) / 8) - X.length := by omega
      have := hK j hj
      rw [padB_len] at this
      unfold padB at this
      rw [← hi] at this
      rw [show X.length + i = 8 * ((X.length + 7) / 8) by omega]
      exact this
end
end Go.Proofs.Ytnnemehejldchaa.VBits4
