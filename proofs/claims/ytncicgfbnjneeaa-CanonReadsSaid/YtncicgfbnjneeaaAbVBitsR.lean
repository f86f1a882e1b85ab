/- package bits' reference over the machine of values: the parts that chapter 10 reaches. -/
import Derived.Test.YtncicgfbnjneeaaProg
import Derived.Test.YtncicgfbnjneeaaAbV16
import Derived.Test.YtncicgfbnjneeaaAbFacts
import Derived.Test.YtncicgfbnjneeaaAbBitsM
import Derived.Test.YtncicgfbnjneeaaAbVBits
import Derived.Test.YtncicgfbnjneeaaAbVBitsT
import Derived.KernelRfl
import Derived.Laws.BitsAllLaws
set_option linter.unusedVariables false
set_option linter.unusedSimpArgs false
set_option maxRecDepth 100000
set_option maxHeartbeats 4000000
namespace Go.Proofs.Ytncicgfbnjneeaa.VBitsR
open Go.RowKit Go.Proofs.AbM Go.Proofs.Ytncicgfbnjneeaa.Facts Go.Proofs.Ytncicgfbnjneeaa.BitsM Go.Proofs.Ytncicgfbnjneeaa.VBits Go.Proofs.Ytncicgfbnjneeaa.VBitsT
attribute [local go_sem] vawp_skip_eq vawp_seq_eq vawp_region_eq vawp_cond_g vawp_block_eq vawp_exit_eq vawp_ret_eq thenV_ret thenV_exit thenV_normal inBlockV_normal inBlockV_ret inBlockV_exit resKV_nil resKV_tmp resKV_cell oneV_one oneV_nil oneV_more initV_nil initV_cons updV_at evv_tmp evv_func evv_global evv_int evv_bool evv_str evv_snil evv_pnil evv_agg ofV3_int ofV3_bool ofV3_str ofV3_snil ofV3_pnil vok_tmp vok_func vok_global vok_int vok_bool vok_str vok_snil vok_pnil vok_agg cloV3_int cloV3_bool cloV3_str cloV3_snil cloV3_pnil voks_nil voks_cons scV_int scV_bool scV_str isBlV_b isBV_t isBV_f lwV_none lwV_sc lwV_agg lwV_tup lwV_isl lwV_own lwV_op lwV_ip lwV_fn lwV_junk vops_nil vops_n vops_s gsN_eq vop dstOk_some dstOk_none pkV_b blkV_set eRead_f eRead_t vLoad_op vLoad_ip vStore_op cells_sc cells_isl cells_own cells_op cells_ip cells_fn cells_agg parts_sc parts_isl parts_own parts_op parts_ip parts_fn parts_agg one_sc one_isl one_own one_op one_ip one_fn vField_op vField_ip ePart_f ePart_t vFieldV_agg vIx_isl vIx_own vIx_op vIx_ip vIxV_agg vIxV_str vLen_str vLen_isl vLen_own vLen_agg bndE_none bndE_int vSlice_isl vSlice_str vBin_add vBin_sub vBin_mul vBin_quo vBin_rem vBin_and vBin_or vBin_xor vBin_andNot vBin_eql vBin_neq vBin_lss vBin_leq vBin_gtr vBin_geq vBin_shr_i8 vBin_shl_i8 vBin_shr_i16 vBin_shl_i16 vBin_shr_i32 vBin_shl_i32 vBin_shr_i64 vBin_shl_i64 vBin_shr_u8 vBin_shl_u8 vBin_shr_u16 vBin_shl_u16 vBin_shr_u32 vBin_shl_u32 vBin_shr_u64 vBin_shl_u64 vBin_seq vBin_sne vBin_isln vBin_opn vBin_ipn ex_sc ex_sc2 ex_sc3 ex_tup calleeV wSc_pb wSc_pi wSc_not wSc_neg wSc_com wSc_min2 wSc_max2 vfold_nil vfold_one vfold_cons vfill_nil vfill_e eFill_s vBuild vBox vAlloc setV_map setV_zs setV_zn setV_s hset_hset eConv_ss vConv_e iv_eq ivI_eq ex_get ex_getI set_iv set_ivI okNil isNilV isSlV hdel_at hset_at List.map_toArray List.map_cons List.map_nil List.nil_append List.cons_append List.append_nil List.toList_toArray List.getElem?_toArray List.getElem_toArray List.getElem_cons_zero List.getElem_cons_succ List.getElem?_cons_zero List.getElem?_cons_succ List.set_cons_zero List.set_cons_succ List.set_set List.length_cons List.length_nil List.length_set List.length_map List.all_cons List.all_nil List.drop_zero List.drop_succ_cons List.take_succ_cons List.take_zero List.flatMap_cons Bool.and_eq_true true_and and_true if_true if_false ite_true ite_false forall_eq' forall_eq exists_eq_left exists_eq_left' exists_eq' Value.bool.injEq Value.int.injEq Value.string.injEq Value.pointer.injEq Option.some.injEq AV.sc.injEq AV.op.injEq AV.ip.injEq AV.own.injEq AV.agg.injEq VB.cells.injEq VB.iter.injEq Prod.mk.injEq decide_eq_true_eq decide_eq_false_iff_not Nat.reduceEqDiff Nat.reduceLT Nat.reduceLeDiff Nat.reduceSub Nat.reduceBEq reduceIte Int.reduceLE Int.reduceLT Int.reduceToNat Int.reduceNeg Int.reduceEq Int.reduceNe Int.cast_ofNat_Int Nat.reduceMul Nat.reduceAdd Nat.reduceDiv Nat.reduceMod Nat.reducePow Int.reduceSub Int.reduceAdd Int.reduceMul Int.reducePow Option.isSome_some Option.isSome_none Option.bind_some Option.map_some Option.map_none Option.toList_some Option.toList_none true_or or_true or_false false_or Bool.not_true Bool.not_false Bool.not_eq_true Bool.false_eq_true Bool.not_not false_implies true_implies implies_true Nat.zero_add Nat.add_zero Nat.mul_one Bool.not_eq_true' Bool.true_eq_false Bool.and_true Bool.true_and Bool.and_false Bool.false_and Bool.or_true Bool.true_or Bool.or_false Bool.false_or Option.isNone_some Option.isNone_none Int.reduceBEq Int.reduceBNe beq_self_eq_true bne_self_eq_false beq_iff_eq not_false_eq_true not_true_eq_false Decidable.not_not bne_iff_ne ne_eq Int.toNat_natCast gt_lt ge_le c_add c_mul c_sub c_addn c_nadd c_muln c_nmul c_subn c_nsub c_divn c_modn c_div c_mod c_tdivn c_tmodn c_tdiv c_tmod c_pow c_nn c_beq c_beqn c_bne c_bnen wr64 wr32 wru64 wru32 wru16 wru8 c_if c_if1 c_if2 c_lt c_le c_eq c_ltn c_len c_nlt c_nle c_eqn m_drop m_take Nat.add_sub_cancel_left Nat.add_sub_cancel Int.reduceTMod Int.reduceTDiv Int.reduceMod Int.reduceDiv isC_some hset_ne hdel_ne hdel_hset hdel_hset_ne blkV_nset blkV_ndel hset_hdel gV_t gV_f isGdV_b isGdV_u isBV_u isGdV_g isBV_gt isBV_gf decide_true decide_false Bool.or_eq_false_iff eq_self Nat.lt_irrefl Int.lt_irrefl Nat.le_refl Int.le_refl
attribute [local go_sem high] vops_pk vops_mv vops_as vops_smv pk_and pk_or pk_gand pk_gor pk_orn pk_gorn
attribute [local go_sem] ag3 sz3 zc3 ik3 ag4 sz4 zc4 ag5 sz5 zc5 ik5 ag22 sz22 el22 zc22 is22 ag24 sz24 el24 zc24 is24 ag25 sz25 zc25 ik25 ag30 sz30 zc30 ik30 ag31 sz31 zc31 pt31 ag38 sz38 el38 zc38 is38 ag39 sz39 zc39 pt39 ag49 sz49 zc49 bo49 ag54 sz54 ea54 an54 zc54 bo54 ag58 sz58 ea58 an58 zc58 bo58 ag60 sz60 zc60 bo60 ag62 sz62 zc62 bo62 ag68 sz68 zc68 pt68 ag72 sz72 zc72 ag73 sz73 ea73 an73 zc73 bo73 of49_0 fd49_0 of49_1 fd49_1 of60_0 fd60_0 of60_1 fd60_1 of60_2 fd60_2 of60_3 fd60_3 of60_4 fd60_4 of62_0 fd62_0 of62_1 fd62_1 eqb neb
section
variable {n : Nat} {h h0 : VH} {K : AV → VH → Prop}
theorem copy_v {nl : Bool} {l : Nat} {xs : List Nat} (hl : l = xs.length) (hb : xs.length ≤ 140737488355328) (hK : ∀ j, h j = none → FrK K (.own j 0 l) (hset h j (.cells 5 false (xs.map (iv .u8))))) : VC Try.prog GL (n + 1) 41 [.isl nl l (xs.map (iv .u8))] h K := by
  refine VC_go Try.func41 rfl (by decide) Try.ntmps41 Try.results41 rfl fun Q hq hn => ?_
  subst hl
  repeat (first | (simp (maxSteps := 1000000) only [↓reduceIte, go_sem]) | (simp (maxSteps := 1000000) (disch := first | omega | assumption) only [BB]) | with_reducible refine Gst.now ?_ | with_reducible refine vawp_draw mixed (by kernel_rfl) ?_ | with_reducible first | refine lwV_out ?_ | refine lwV_out0 ?_ | refine lkC_out ?_ | refine And.intro (by omega) ?_ | fail)
  refine vBuildS_o bs38 ?_ ?_ ?_ ?_ ?_
  rfl
  rfl
  rfl
  rfl
  intro j hj
  repeat (first | (simp (maxSteps := 1000000) only [↓reduceIte, go_sem]) | (simp (maxSteps := 1000000) (disch := first | omega | assumption) only [BB]) | with_reducible refine Gst.now ?_ | with_reducible refine vawp_draw mixed (by kernel_rfl) ?_ | with_reducible first | refine lwV_out ?_ | refine lwV_out0 ?_ | refine lkC_out ?_ | refine And.intro (by omega) ?_ | fail)
  apply vApp_own_isl ap38 (by simp only [go_sem])
  case hv => first | (simp []; done) | (simp []; omega) | rfl | assumption
  case hj => repeat (first | exact hset_at _ _ _ | assumption | refine (hset_ne _ _ (by first | omega | assumption)).trans ?_ | refine (hdel_ne _ (by first | omega | assumption)).trans ?_ | fail)
  case hl => first | (simp []; done) | (simp []; omega) | rfl | assumption
  case h1 => first | omega | (simp []; omega) | (simp []; done)
  case h2 => first | omega | (simp []; omega) | (simp []; done)
  intro j' hj'
  try simp (disch := first | omega | assumption) only [go_sem, hset_none, hdel_none] at hj'
  try simp (disch := first | omega | assumption) only [hset_none, hdel_none] at hj'
  repeat (first | (simp (maxSteps := 1000000) only [↓reduceIte, go_sem]) | (simp (maxSteps := 1000000) (disch := first | omega | assumption) only [BB]) | with_reducible refine Gst.now ?_ | with_reducible refine vawp_draw mixed (by kernel_rfl) ?_ | with_reducible first | refine lwV_out ?_ | refine lwV_out0 ?_ | refine lkC_out ?_ | refine And.intro (by omega) ?_ | fail)
  refine hq _ _ ?_
  repeat (first | (simp (maxSteps := 1000000) only [↓reduceIte, go_sem]) | (simp (maxSteps := 1000000) (disch := first | omega | assumption) only [BB]) | with_reducible refine Gst.now ?_ | with_reducible refine vawp_draw mixed (by kernel_rfl) ?_ | with_reducible first | refine lwV_out ?_ | refine lwV_out0 ?_ | refine lkC_out ?_ | refine And.intro (by omega) ?_ | fail)
  exact hK j' hj'
theorem same_v {nl nl2 : Bool} {l l2 : Nat} {xs ys : List Nat} (h1 : l = xs.length) (h2 : l2 = ys.length) (hb : xs.length ≤ 140737488355328) (hb2 : ys.length ≤ 140737488355328) (hK : K (.sc (.bool (decide (xs = ys)))) h) : VC Try.prog GL (n + 1) 38 [.isl nl l (xs.map (iv .u8)), .isl nl2 l2 (ys.map (iv .u8))] h K := by
  refine VC_go Try.func38 rfl (by decide) Try.ntmps38 Try.results38 rfl fun Q hq hn => ?_
  subst h1 h2
  repeat (first | (simp (maxSteps := 1000000) only [↓reduceIte, go_sem]) | (simp (maxSteps := 1000000) (disch := first | omega | assumption) only [BB]) | with_reducible refine Gst.now ?_ | with_reducible refine vawp_draw mixed (by kernel_rfl) ?_ | with_reducible first | refine lwV_out ?_ | refine lwV_out0 ?_ | refine lkC_out ?_ | refine And.intro (by omega) ?_ | fail)
  split
  · rename_i hne
    have e : decide (xs = ys) = false := decide_eq_false (by rintro rfl; exact hne rfl)
    rw [e] at hK
    repeat (first | (simp (maxSteps := 1000000) only [↓reduceIte, go_sem]) | (simp (maxSteps := 1000000) (disch := first | omega | assumption) only [BB]) | with_reducible refine Gst.now ?_ | with_reducible refine vawp_draw mixed (by kernel_rfl) ?_ | with_reducible first | refine lwV_out ?_ | refine lwV_out0 ?_ | refine lkC_out ?_ | refine And.intro (by omega) ?_ | fail)
    refine hq _ _ ?_
    repeat (first | (simp (maxSteps := 1000000) only [↓reduceIte, go_sem]) | (simp (maxSteps := 1000000) (disch := first | omega | assumption) only [BB]) | with_reducible refine Gst.now ?_ | with_reducible refine vawp_draw mixed (by kernel_rfl) ?_ | with_reducible first | refine lwV_out ?_ | refine lwV_out0 ?_ | refine lkC_out ?_ | refine And.intro (by omega) ?_ | fail)
    exact .now hK
  · rename_i he
    simp only [Bool.not_eq_true, Decidable.not_not, ne_eq] at he
    have he : xs.length = ys.length := by omega
    repeat (first | (simp (maxSteps := 1000000) only [↓reduceIte, go_sem]) | (simp (maxSteps := 1000000) (disch := first | omega | assumption) only [BB]) | with_reducible refine Gst.now ?_ | with_reducible refine vawp_draw mixed (by kernel_rfl) ?_ | with_reducible first | refine lwV_out ?_ | refine lwV_out0 ?_ | refine lkC_out ?_ | refine And.intro (by omega) ?_ | fail)
    refine vawp_loop (k := xs.length) (fun k ρ h1 => ∃ i : Nat, k + i = xs.length ∧ ρ 0 = .isl nl xs.length (xs.map (iv .u8)) ∧ ρ 1 = .isl nl2 ys.length (ys.map (iv .u8)) ∧ ρ 5 = (.sc (.int .i64 (i))) ∧ xs.take i = ys.take i ∧ h1 = h) ?_ ?_
    · refine ⟨0, rfl, ?_⟩
      repeat (first | (simp (maxSteps := 1000000) only [↓reduceIte, go_sem]) | (simp (maxSteps := 1000000) (disch := first | omega | assumption) only [BB]) | with_reducible refine Gst.now ?_ | with_reducible refine vawp_draw mixed (by kernel_rfl) ?_ | with_reducible first | refine lwV_out ?_ | refine lwV_out0 ?_ | refine lkC_out ?_ | refine And.intro (by omega) ?_ | fail)
    · rintro k ρ h1 ⟨i, hki, g0, g1, g5, ht, rfl⟩
      repeat (first | (simp (maxSteps := 1000000) only [↓reduceIte, go_sem, g0, g1, g5]) | (simp (maxSteps := 1000000) (disch := first | omega | assumption) only [BB, g0, g1, g5]) | with_reducible refine Gst.now ?_ | with_reducible refine vawp_draw mixed (by kernel_rfl) ?_ | with_reducible first | refine lwV_out ?_ | refine lwV_out0 ?_ | refine lkC_out ?_ | refine And.intro (by omega) ?_ | fail)
      split
      · repeat (first | (simp (maxSteps := 1000000) only [↓reduceIte, go_sem, g0, g1, g5]) | (simp (maxSteps := 1000000) (disch := first | omega | assumption) only [BB, g0, g1, g5]) | with_reducible refine Gst.now ?_ | with_reducible refine vawp_draw mixed (by kernel_rfl) ?_ | with_reducible first | refine lwV_out ?_ | refine lwV_out0 ?_ | refine lkC_out ?_ | refine And.intro (by omega) ?_ | fail)
        split
        · rename_i hne
          have e : decide (xs = ys) = false := decide_eq_false (by rintro rfl; exact hne rfl)
          rw [e] at hK
          repeat (first | (simp (maxSteps := 1000000) only [↓reduceIte, go_sem]) | (simp (maxSteps := 1000000) (disch := first | omega | assumption) only [BB]) | with_reducible refine Gst.now ?_ | with_reducible refine vawp_draw mixed (by kernel_rfl) ?_ | with_reducible first | refine lwV_out ?_ | refine lwV_out0 ?_ | refine lkC_out ?_ | refine And.intro (by omega) ?_ | fail)
          refine hq _ _ ?_
          repeat (first | (simp (maxSteps := 1000000) only [↓reduceIte, go_sem]) | (simp (maxSteps := 1000000) (disch := first | omega | assumption) only [BB]) | with_reducible refine Gst.now ?_ | with_reducible refine vawp_draw mixed (by kernel_rfl) ?_ | with_reducible first | refine lwV_out ?_ | refine lwV_out0 ?_ | refine lkC_out ?_ | refine And.intro (by omega) ?_ | fail)
          exact .now hK
        · rename_i heq
          simp only [Bool.not_eq_true, Decidable.not_not, ne_eq] at heq
          repeat (first | (simp (maxSteps := 1000000) only [↓reduceIte, go_sem, g5]) | (simp (maxSteps := 1000000) (disch := first | omega | assumption) only [BB, g5]) | with_reducible refine Gst.now ?_ | with_reducible refine vawp_draw mixed (by kernel_rfl) ?_ | with_reducible first | refine lwV_out ?_ | refine lwV_out0 ?_ | refine lkC_out ?_ | refine And.intro (by omega) ?_ | fail)
          refine ⟨k - 1, by omega, i + 1, by omega, ?_⟩
          repeat (first | (simp (maxSteps := 1000000) only [↓reduceIte, go_sem, g0, g1]) | (simp (maxSteps := 1000000) (disch := first | omega | assumption) only [BB, g0, g1]) | with_reducible refine Gst.now ?_ | with_reducible refine vawp_draw mixed (by kernel_rfl) ?_ | with_reducible first | refine lwV_out ?_ | refine lwV_out0 ?_ | refine lkC_out ?_ | refine And.intro (by omega) ?_ | fail)
          rw [take_snoc (by omega), take_snoc (by omega), ht]
          congr 2
      · repeat (first | (simp (maxSteps := 1000000) only [↓reduceIte, go_sem]) | (simp (maxSteps := 1000000) (disch := first | omega | assumption) only [BB]) | with_reducible refine Gst.now ?_ | with_reducible refine vawp_draw mixed (by kernel_rfl) ?_ | with_reducible first | refine lwV_out ?_ | refine lwV_out0 ?_ | refine lkC_out ?_ | refine And.intro (by omega) ?_ | fail)
        refine hq _ _ ?_
        repeat (first | (simp (maxSteps := 1000000) only [↓reduceIte, go_sem]) | (simp (maxSteps := 1000000) (disch := first | omega | assumption) only [BB]) | with_reducible refine Gst.now ?_ | with_reducible refine vawp_draw mixed (by kernel_rfl) ?_ | with_reducible first | refine lwV_out ?_ | refine lwV_out0 ?_ | refine lkC_out ?_ | refine And.intro (by omega) ?_ | fail)
        have e : decide (xs = ys) = true := decide_eq_true (by
          have hi : i = xs.length := by omega
          subst hi
          rw [List.take_length, he, List.take_length] at ht
          exact ht)
        rw [e] at hK
        exact .now hK
theorem rput_v {l v : Nat} {nl : Bool} {X : List Nat} {m : Int} (hl : l = X.length) (hb : X.length < 4294967000) (hv : v < 4294967296) (hK : ∀ j, h j = none → FrK K (.own j 0 (X.length + hs32 m)) (hset h j (.cells 5 false ((X ++ lowBits v (hs32 m)).map (iv .u8))))) : VC Try.prog GL (n + 2) 40 [.isl nl l (X.map (iv .u8)), (.sc (.int .u32 (v))), (.sc (.int .i64 (m)))] h K := by
  refine VC_go Try.func40 rfl (by decide) Try.ntmps40 Try.results40 rfl fun Q hq hn => ?_
  subst hl
  repeat (first | (simp (maxSteps := 1000000) only [↓reduceIte, go_sem]) | (simp (maxSteps := 1000000) (disch := first | omega | assumption) only [BB]) | with_reducible refine Gst.now ?_ | with_reducible refine vawp_draw mixed (by kernel_rfl) ?_ | with_reducible first | refine lwV_out ?_ | refine lwV_out0 ?_ | refine lkC_out ?_ | refine And.intro (by omega) ?_ | fail)
  with_reducible refine call_ok ?_
  refine copy_v rfl (by omega) fun j hj => .now ?_
  repeat (first | (simp (maxSteps := 1000000) only [↓reduceIte, go_sem]) | (simp (maxSteps := 1000000) (disch := first | omega | assumption) only [BB]) | with_reducible refine Gst.now ?_ | with_reducible refine vawp_draw mixed (by kernel_rfl) ?_ | with_reducible first | refine lwV_out ?_ | refine lwV_out0 ?_ | refine lkC_out ?_ | refine And.intro (by omega) ?_ | fail)
  refine vawp_loop (k := hs32 m) (fun k ρ h1 => ∃ i : Nat, k + i = hs32 m ∧ ρ 1 = (.sc (.int .u32 ((v / 2 ^ i : Nat)))) ∧ ρ 2 = (.sc (.int .i64 (m))) ∧ ρ 8 = (.sc (.int .i64 (i))) ∧ ∃ j, h j = none ∧ ρ 7 = .own j 0 (X.length + i) ∧ h1 = hset h j (.cells 5 false ((X ++ lowBits v i).map (iv .u8)))) ?_ ?_
  · refine ⟨0, by omega, ?_⟩
    repeat (first | (simp (maxSteps := 1000000) only [↓reduceIte, go_sem]) | (simp (maxSteps := 1000000) (disch := first | omega | assumption) only [BB]) | with_reducible refine Gst.now ?_ | with_reducible refine vawp_draw mixed (by kernel_rfl) ?_ | with_reducible first | refine lwV_out ?_ | refine lwV_out0 ?_ | refine lkC_out ?_ | refine And.intro (by omega) ?_ | fail)
    exact ⟨j, hj, rfl, by rw [lowBits, List.append_nil]⟩
  · rintro k ρ h1 ⟨i, hki, g1, g2, g8, j, hj, g7, rfl⟩
    have hm : hs32 m ≤ 32 := by unfold hs32; omega
    have hll := lowBits_len v i
    have hvi : v / 2 ^ i < 4294967296 := Nat.lt_of_le_of_lt (Nat.div_le_self _ _) hv
    have ew : IntKind.u32.wrap ((v / 2 ^ i / 2 : Nat) : Int) = ((v / 2 ^ i / 2 : Nat) : Int) := by
      generalize v / 2 ^ i = y at *
      exact wru32 (by omega) (by omega)
    repeat (first | (simp (maxSteps := 1000000) only [↓reduceIte, go_sem, g1, g2, g7, g8]) | (simp (maxSteps := 1000000) (disch := first | omega | assumption) only [BB, g1, g2, g7, g8]) | with_reducible refine Gst.now ?_ | with_reducible refine vawp_draw mixed (by kernel_rfl) ?_ | with_reducible first | refine lwV_out ?_ | refine lwV_out0 ?_ | refine lkC_out ?_ | refine And.intro (by omega) ?_ | fail)
    by_cases hlt : (i : Int) < m
    · by_cases h32 : i < 32
      · repeat (first | (simp (maxSteps := 1000000) only [↓reduceIte, go_sem, g1, g2, g7, g8, hlt, h32]) | (simp (maxSteps := 1000000) (disch := first | omega | assumption) only [BB, g1, g2, g7, g8, hlt, h32]) | with_reducible refine Gst.now ?_ | with_reducible refine vawp_draw mixed (by kernel_rfl) ?_ | with_reducible first | refine lwV_out ?_ | refine lwV_out0 ?_ | refine lkC_out ?_ | refine And.intro (by omega) ?_ | fail)
        refine vBuildS_i bs38 ?_ ?_ ?_ ?_ ?_
        rfl
        rfl
        rfl
        rfl
        repeat (first | (simp (maxSteps := 1000000) only [↓reduceIte, go_sem]) | (simp (maxSteps := 1000000) (disch := first | omega | assumption) only [BB]) | with_reducible refine Gst.now ?_ | with_reducible refine vawp_draw mixed (by kernel_rfl) ?_ | with_reducible first | refine lwV_out ?_ | refine lwV_out0 ?_ | refine lkC_out ?_ | refine And.intro (by omega) ?_ | fail)
        apply vApp_own_isl ap38 (by simp only [go_sem])
        case hv => first | (simp [hll]; done) | (simp [hll]; omega) | rfl | assumption
        case hj => repeat (first | exact hset_at _ _ _ | assumption | refine (hset_ne _ _ (by first | omega | assumption)).trans ?_ | refine (hdel_ne _ (by first | omega | assumption)).trans ?_ | fail)
        case hl => first | (simp [hll]; done) | (simp [hll]; omega) | rfl | assumption
        case h1 => first | omega | (simp [hll]; omega) | (simp [hll]; done)
        case h2 => first | omega | (simp [hll]; omega) | (simp [hll]; done)
        intro j' hj'
        try simp (disch := first | omega | assumption) only [go_sem, hset_none, hdel_none] at hj'
        try simp (disch := first | omega | assumption) only [hset_none, hdel_none] at hj'
        repeat (first | (simp (maxSteps := 1000000) only [↓reduceIte, go_sem, g1, g8, ew]) | (simp (maxSteps := 1000000) (disch := first | omega | assumption) only [BB, g1, g8, ew]) | with_reducible refine Gst.now ?_ | with_reducible refine vawp_draw mixed (by kernel_rfl) ?_ | with_reducible first | refine lwV_out ?_ | refine lwV_out0 ?_ | refine lkC_out ?_ | refine And.intro (by omega) ?_ | fail)
        have hi : i < hs32 m := by unfold hs32; omega
        refine ⟨k - 1, by omega, i + 1, by omega, ?_⟩
        repeat (first | (simp (maxSteps := 1000000) only [↓reduceIte, go_sem, g2]) | (simp (maxSteps := 1000000) (disch := first | omega | assumption) only [BB, g2]) | with_reducible refine Gst.now ?_ | with_reducible refine vawp_draw mixed (by kernel_rfl) ?_ | with_reducible first | refine lwV_out ?_ | refine lwV_out0 ?_ | refine lkC_out ?_ | refine And.intro (by omega) ?_ | fail)
        refine ⟨?_, j', hj', ⟨rfl, by omega⟩, ?_⟩
        · rw [Nat.pow_succ, ← Nat.div_div_eq_div_mul]
        · rw [lowBits, ← List.append_assoc, List.map_append (l₁ := X ++ lowBits v i)]
          have : v / 2 ^ i % 2 < 256 := by omega
          rfl
      · have hi : i = hs32 m := by unfold hs32 at *; omega
        repeat (first | (simp (maxSteps := 1000000) only [↓reduceIte, go_sem, g7, hlt, h32]) | (simp (maxSteps := 1000000) (disch := first | omega | assumption) only [BB, g7, hlt, h32]) | with_reducible refine Gst.now ?_ | with_reducible refine vawp_draw mixed (by kernel_rfl) ?_ | with_reducible first | refine lwV_out ?_ | refine lwV_out0 ?_ | refine lkC_out ?_ | refine And.intro (by omega) ?_ | fail)
        refine hq _ _ ?_
        repeat (first | (simp (maxSteps := 1000000) only [↓reduceIte, go_sem]) | (simp (maxSteps := 1000000) (disch := first | omega | assumption) only [BB]) | with_reducible refine Gst.now ?_ | with_reducible refine vawp_draw mixed (by kernel_rfl) ?_ | with_reducible first | refine lwV_out ?_ | refine lwV_out0 ?_ | refine lkC_out ?_ | refine And.intro (by omega) ?_ | fail)
        rw [hi]
        exact hK j hj
    · have hi : i = hs32 m := by unfold hs32 at *; omega
      repeat (first | (simp (maxSteps := 1000000) only [↓reduceIte, go_sem, g7, hlt]) | (simp (maxSteps := 1000000) (disch := first | omega | assumption) only [BB, g7, hlt]) | with_reducible refine Gst.now ?_ | with_reducible refine vawp_draw mixed (by kernel_rfl) ?_ | with_reducible first | refine lwV_out ?_ | refine lwV_out0 ?_ | refine lkC_out ?_ | refine And.intro (by omega) ?_ | fail)
      refine hq _ _ ?_
      repeat (first | (simp (maxSteps := 1000000) only [↓reduceIte, go_sem]) | (simp (maxSteps := 1000000) (disch := first | omega | assumption) only [BB]) | with_reducible refine Gst.now ?_ | with_reducible refine vawp_draw mixed (by kernel_rfl) ?_ | with_reducible first | refine lwV_out ?_ | refine lwV_out0 ?_ | refine lkC_out ?_ | refine And.intro (by omega) ?_ | fail)
      rw [hi]
      exact hK j hj
theorem rcode_v {l v : Nat} {nl : Bool} {X : List Nat} {m : Int} (hl : l = X.length) (hb : X.length < 4294967000) (hv : v < 4294967296) (hK : ∀ j, h j = none → FrK K (.own j 0 (X.length + hs32 m)) (hset h j (.cells 5 false ((X ++ codeTo v (hs32 m) (hs32 m)).map (iv .u8))))) : VC Try.prog GL (n + 3) 37 [.isl nl l (X.map (iv .u8)), (.sc (.int .u32 (v))), (.sc (.int .i64 (m)))] h K := by
  refine VC_go Try.func37 rfl (by decide) Try.ntmps37 Try.results37 rfl fun Q hq hn => ?_
  subst hl
  have hm : hs32 m ≤ 32 := by unfold hs32; omega
  have hlow := lowBits_len v (hs32 m)
  repeat (first | (simp (maxSteps := 1000000) only [↓reduceIte, go_sem]) | (simp (maxSteps := 1000000) (disch := first | omega | assumption) only [BB]) | with_reducible refine Gst.now ?_ | with_reducible refine vawp_draw mixed (by kernel_rfl) ?_ | with_reducible first | refine lwV_out ?_ | refine lwV_out0 ?_ | refine lkC_out ?_ | refine And.intro (by omega) ?_ | fail)
  with_reducible refine call_ok ?_
  refine rput_v (X := []) rfl (by simp) hv fun j hj => .iso hj ?_
  rw [List.nil_append, List.length_nil, Nat.zero_add]
  have hgetl : ∀ i, i < hs32 m → (lowBits v (hs32 m)).getD i 0 = v / 2 ^ i % 2 := fun i hi => lowBits_get hi
  generalize hN : hs32 m = N at *
  generalize lowBits v N = L at *
  subst hlow
  repeat (first | (simp (maxSteps := 1000000) only [↓reduceIte, go_sem]) | (simp (maxSteps := 1000000) (disch := first | omega | assumption) only [BB]) | with_reducible refine Gst.now ?_ | with_reducible refine vawp_draw mixed (by kernel_rfl) ?_ | with_reducible first | refine lwV_out ?_ | refine lwV_out0 ?_ | refine lkC_out ?_ | refine And.intro (by omega) ?_ | fail)
  with_reducible refine call_ok ?_
  refine copy_v rfl (by omega) fun j hj => .now ?_
  repeat (first | (simp (maxSteps := 1000000) only [↓reduceIte, go_sem]) | (simp (maxSteps := 1000000) (disch := first | omega | assumption) only [BB]) | with_reducible refine Gst.now ?_ | with_reducible refine vawp_draw mixed (by kernel_rfl) ?_ | with_reducible first | refine lwV_out ?_ | refine lwV_out0 ?_ | refine lkC_out ?_ | refine And.intro (by omega) ?_ | fail)
  refine vawp_loop (k := L.length) (fun k ρ h1 => ∃ i : Nat, k + i = L.length ∧ ρ 7 = .isl false L.length (L.map (iv .u8)) ∧ ρ 9 = (.sc (.int .i64 ((k : Int) - 1))) ∧ ∃ j, h j = none ∧ ρ 8 = .own j 0 (X.length + i) ∧ h1 = hset h j (.cells 5 false ((X ++ codeTo v L.length i).map (iv .u8)))) ?_ ?_
  · refine ⟨0, by omega, ?_⟩
    repeat (first | (simp (maxSteps := 1000000) only [↓reduceIte, go_sem]) | (simp (maxSteps := 1000000) (disch := first | omega | assumption) only [BB]) | with_reducible refine Gst.now ?_ | with_reducible refine vawp_draw mixed (by kernel_rfl) ?_ | with_reducible first | refine lwV_out ?_ | refine lwV_out0 ?_ | refine lkC_out ?_ | refine And.intro (by omega) ?_ | fail)
    exact ⟨j, hj, rfl, by rw [codeTo, List.append_nil]⟩
  · rintro k ρ h1 ⟨i, hki, g7, g9, j, hj, g8, rfl⟩
    have hcl := codeTo_len v L.length i
    repeat (first | (simp (maxSteps := 1000000) only [↓reduceIte, go_sem, g7, g8, g9]) | (simp (maxSteps := 1000000) (disch := first | omega | assumption) only [BB, g7, g8, g9]) | with_reducible refine Gst.now ?_ | with_reducible refine vawp_draw mixed (by kernel_rfl) ?_ | with_reducible first | refine lwV_out ?_ | refine lwV_out0 ?_ | refine lkC_out ?_ | refine And.intro (by omega) ?_ | fail)
    split
    · rename_i hge
      obtain ⟨k, rfl⟩ : ∃ k', k = k' + 1 := ⟨k - 1, by omega⟩
      have e0 : ((k + 1 : Nat) : Int) - 1 = (k : Int) := by omega
      rw [e0] at g9
      repeat (first | (simp (maxSteps := 1000000) only [↓reduceIte, go_sem, g7, g8, g9]) | (simp (maxSteps := 1000000) (disch := first | omega | assumption) only [BB, g7, g8, g9]) | with_reducible refine Gst.now ?_ | with_reducible refine vawp_draw mixed (by kernel_rfl) ?_ | with_reducible first | refine lwV_out ?_ | refine lwV_out0 ?_ | refine lkC_out ?_ | refine And.intro (by omega) ?_ | fail)
      refine vBuildS_i bs38 ?_ ?_ ?_ ?_ ?_
      rfl
      rfl
      rfl
      rfl
      repeat (first | (simp (maxSteps := 1000000) only [↓reduceIte, go_sem]) | (simp (maxSteps := 1000000) (disch := first | omega | assumption) only [BB]) | with_reducible refine Gst.now ?_ | with_reducible refine vawp_draw mixed (by kernel_rfl) ?_ | with_reducible first | refine lwV_out ?_ | refine lwV_out0 ?_ | refine lkC_out ?_ | refine And.intro (by omega) ?_ | fail)
      apply vApp_own_isl ap38 (by simp only [go_sem])
      case hv => first | (simp [hcl]; done) | (simp [hcl]; omega) | rfl | assumption
      case hj => repeat (first | exact hset_at _ _ _ | assumption | refine (hset_ne _ _ (by first | omega | assumption)).trans ?_ | refine (hdel_ne _ (by first | omega | assumption)).trans ?_ | fail)
      case hl => first | (simp [hcl]; done) | (simp [hcl]; omega) | rfl | assumption
      case h1 => first | omega | (simp [hcl]; omega) | (simp [hcl]; done)
      case h2 => first | omega | (simp [hcl]; omega) | (simp [hcl]; done)
      intro j' hj'
      try simp (disch := first | omega | assumption) only [go_sem, hset_none, hdel_none] at hj'
      try simp (disch := first | omega | assumption) only [hset_none, hdel_none] at hj'
      repeat (first | (simp (maxSteps := 1000000) only [↓reduceIte, go_sem, g9]) | (simp (maxSteps := 1000000) (disch := first | omega | assumption) only [BB, g9]) | with_reducible refine Gst.now ?_ | with_reducible refine vawp_draw mixed (by kernel_rfl) ?_ | with_reducible first | refine lwV_out ?_ | refine lwV_out0 ?_ | refine lkC_out ?_ | refine And.intro (by omega) ?_ | fail)
      refine ⟨k, by omega, i + 1, by omega, ?_⟩
      repeat (first | (simp (maxSteps := 1000000) only [↓reduceIte, go_sem, g7]) | (simp (maxSteps := 1000000) (disch := first | omega | assumption) only [BB, g7]) | with_reducible refine Gst.now ?_ | with_reducible refine vawp_draw mixed (by kernel_rfl) ?_ | with_reducible first | refine lwV_out ?_ | refine lwV_out0 ?_ | refine lkC_out ?_ | refine And.intro (by omega) ?_ | fail)
      refine ⟨j', hj', ⟨rfl, by omega⟩, ?_⟩
      rw [codeTo, ← List.append_assoc, List.map_append (l₁ := X ++ codeTo v L.length i), hgetl _ (by omega), show L.length - 1 - i = k by omega]
      rfl
    · rename_i hge
      repeat (first | (simp (maxSteps := 1000000) only [↓reduceIte, go_sem, g8]) | (simp (maxSteps := 1000000) (disch := first | omega | assumption) only [BB, g8]) | with_reducible refine Gst.now ?_ | with_reducible refine vawp_draw mixed (by kernel_rfl) ?_ | with_reducible first | refine lwV_out ?_ | refine lwV_out0 ?_ | refine lkC_out ?_ | refine And.intro (by omega) ?_ | fail)
      refine hq _ _ ?_
      repeat (first | (simp (maxSteps := 1000000) only [↓reduceIte, go_sem]) | (simp (maxSteps := 1000000) (disch := first | omega | assumption) only [BB]) | with_reducible refine Gst.now ?_ | with_reducible refine vawp_draw mixed (by kernel_rfl) ?_ | with_reducible first | refine lwV_out ?_ | refine lwV_out0 ?_ | refine lkC_out ?_ | refine And.intro (by omega) ?_ | fail)
      have hi : i = L.length := by omega
      subst hi
      exact hK j hj
theorem rbits_v {l : Nat} {nl : Bool} {bs : List Nat} (hl : l = bs.length) (hb : bs.length < 400000000) (hbs : ∀ b ∈ bs, b < 256) (hK : ∀ j, h j = none → FrK K (.own j 0 (bitsOf bs).length) (hset h j (.cells 5 false ((bitsOf bs).map (iv .u8))))) : VC Try.prog GL (n + 1) 14 [.isl nl l (bs.map (iv .u8))] h K := by
  refine VC_go Try.func14 rfl (by decide) Try.ntmps14 Try.results14 rfl fun Q hq hn => ?_
  subst hl
  repeat (first | (simp (maxSteps := 1000000) only [↓reduceIte, go_sem]) | (simp (maxSteps := 1000000) (disch := first | omega | assumption) only [BB]) | with_reducible refine Gst.now ?_ | with_reducible refine vawp_draw mixed (by kernel_rfl) ?_ | with_reducible first | refine lwV_out ?_ | refine lwV_out0 ?_ | refine lkC_out ?_ | refine And.intro (by omega) ?_ | fail)
  refine vBuildS_o bs38 ?_ ?_ ?_ ?_ ?_
  rfl
  rfl
  rfl
  rfl
  intro j0 hj0
  repeat (first | (simp (maxSteps := 1000000) only [↓reduceIte, go_sem]) | (simp (maxSteps := 1000000) (disch := first | omega | assumption) only [BB]) | with_reducible refine Gst.now ?_ | with_reducible refine vawp_draw mixed (by kernel_rfl) ?_ | with_reducible first | refine lwV_out ?_ | refine lwV_out0 ?_ | refine lkC_out ?_ | refine And.intro (by omega) ?_ | fail)
  refine vawp_loop (k := bs.length) (fun k ρ h1 => ∃ i : Nat, k + i = bs.length ∧ ρ 0 = .isl nl bs.length (bs.map (iv .u8)) ∧ ρ 4 = (.sc (.int .i64 (i))) ∧ ∃ j, h j = none ∧ ρ 3 = .own j 0 (8 * i) ∧ h1 = hset h j (.cells 5 false ((bitsOf (bs.take i)).map (iv .u8)))) ?_ ?_
  · refine ⟨0, by omega, ?_⟩
    repeat (first | (simp (maxSteps := 1000000) only [↓reduceIte, go_sem]) | (simp (maxSteps := 1000000) (disch := first | omega | assumption) only [BB]) | with_reducible refine Gst.now ?_ | with_reducible refine vawp_draw mixed (by kernel_rfl) ?_ | with_reducible first | refine lwV_out ?_ | refine lwV_out0 ?_ | refine lkC_out ?_ | refine And.intro (by omega) ?_ | fail)
    exact ⟨j0, hj0, rfl, by simp [bitsOf]⟩
  · rintro k0 ρ0 h1 ⟨i, hki, f0, f4, j1, hj1, f3, rfl⟩
    repeat (first | (simp (maxSteps := 1000000) only [↓reduceIte, go_sem, f0, f4]) | (simp (maxSteps := 1000000) (disch := first | omega | assumption) only [BB, f0, f4]) | with_reducible refine Gst.now ?_ | with_reducible refine vawp_draw mixed (by kernel_rfl) ?_ | with_reducible first | refine lwV_out ?_ | refine lwV_out0 ?_ | refine lkC_out ?_ | refine And.intro (by omega) ?_ | fail)
    split
    · repeat (first | (simp (maxSteps := 1000000) only [↓reduceIte, go_sem, f0, f4]) | (simp (maxSteps := 1000000) (disch := first | omega | assumption) only [BB, f0, f4]) | with_reducible refine Gst.now ?_ | with_reducible refine vawp_draw mixed (by kernel_rfl) ?_ | with_reducible first | refine lwV_out ?_ | refine lwV_out0 ?_ | refine lkC_out ?_ | refine And.intro (by omega) ?_ | fail)
      have hc := getD_lt hbs i
      generalize hcd : bs.getD i 0 = c at *
      refine vawp_loop (k := 8) (fun k ρ h1 => ∃ q : Nat, k + q = 8 ∧ ρ 0 = .isl nl bs.length (bs.map (iv .u8)) ∧ ρ 4 = (.sc (.int .i64 (i))) ∧ ρ 5 = (.sc (.int .u8 ((c / 2 ^ q : Nat)))) ∧ ρ 6 = (.sc (.int .i64 (q))) ∧ ∃ j, h j = none ∧ ρ 3 = .own j 0 (8 * i + q) ∧ h1 = hset h j (.cells 5 false ((bitsOf (bs.take i) ++ (bits8 c).take q).map (iv .u8)))) ?_ ?_
      · refine ⟨0, by omega, ?_⟩
        repeat (first | (simp (maxSteps := 1000000) only [↓reduceIte, go_sem, f0, f3, f4]) | (simp (maxSteps := 1000000) (disch := first | omega | assumption) only [BB, f0, f3, f4]) | with_reducible refine Gst.now ?_ | with_reducible refine vawp_draw mixed (by kernel_rfl) ?_ | with_reducible first | refine lwV_out ?_ | refine lwV_out0 ?_ | refine lkC_out ?_ | refine And.intro (by omega) ?_ | fail)
        exact ⟨j1, hj1, rfl, by simp⟩
      · rintro k ρ h1 ⟨q, hkq, g0, g4, g5, g6, j, hj, g3, rfl⟩
        have hlen : (bitsOf (bs.take i)).length = 8 * i := by rw [bitsOf_len, List.length_take]; omega
        have h8 : (bits8 c).length = 8 := rfl
        have hcq : c / 2 ^ q < 256 := Nat.lt_of_le_of_lt (Nat.div_le_self _ _) hc
        repeat (first | (simp (maxSteps := 1000000) only [↓reduceIte, go_sem, g0, g4, g5, g6]) | (simp (maxSteps := 1000000) (disch := first | omega | assumption) only [BB, g0, g4, g5, g6]) | with_reducible refine Gst.now ?_ | with_reducible refine vawp_draw mixed (by kernel_rfl) ?_ | with_reducible first | refine lwV_out ?_ | refine lwV_out0 ?_ | refine lkC_out ?_ | refine And.intro (by omega) ?_ | fail)
        split
        · repeat (first | (simp (maxSteps := 1000000) only [↓reduceIte, go_sem, g3, g5]) | (simp (maxSteps := 1000000) (disch := first | omega | assumption) only [BB, g3, g5]) | with_reducible refine Gst.now ?_ | with_reducible refine vawp_draw mixed (by kernel_rfl) ?_ | with_reducible first | refine lwV_out ?_ | refine lwV_out0 ?_ | refine lkC_out ?_ | refine And.intro (by omega) ?_ | fail)
          refine vBuildS_i bs38 ?_ ?_ ?_ ?_ ?_
          rfl
          rfl
          rfl
          rfl
          repeat (first | (simp (maxSteps := 1000000) only [↓reduceIte, go_sem]) | (simp (maxSteps := 1000000) (disch := first | omega | assumption) only [BB]) | with_reducible refine Gst.now ?_ | with_reducible refine vawp_draw mixed (by kernel_rfl) ?_ | with_reducible first | refine lwV_out ?_ | refine lwV_out0 ?_ | refine lkC_out ?_ | refine And.intro (by omega) ?_ | fail)
          apply vApp_own_isl ap38 (by simp only [go_sem])
          case hv => first | (simp [hlen, h8]; done) | (simp [hlen, h8]; omega) | rfl | assumption
          case hj => repeat (first | exact hset_at _ _ _ | assumption | refine (hset_ne _ _ (by first | omega | assumption)).trans ?_ | refine (hdel_ne _ (by first | omega | assumption)).trans ?_ | fail)
          case hl => first | (simp [hlen, h8]; done) | (simp [hlen, h8]; omega) | rfl | assumption
          case h1 => first | omega | (simp [hlen, h8]; omega) | (simp [hlen, h8]; done)
          case h2 => first | omega | (simp [hlen, h8]; omega) | (simp [hlen, h8]; done)
          intro j' hj'
          try simp (disch := first | omega | assumption) only [go_sem, hset_none, hdel_none] at hj'
          try simp (disch := first | omega | assumption) only [hset_none, hdel_none] at hj'
          have ew : IntKind.u8.wrap ((c / 2 ^ q / 2 : Nat) : Int) = ((c / 2 ^ q / 2 : Nat) : Int) := by
            generalize c / 2 ^ q = y at *
            exact wru8 (by omega) (by omega)
          repeat (first | (simp (maxSteps := 1000000) only [↓reduceIte, go_sem, g5, g6, ew]) | (simp (maxSteps := 1000000) (disch := first | omega | assumption) only [BB, g5, g6, ew]) | with_reducible refine Gst.now ?_ | with_reducible refine vawp_draw mixed (by kernel_rfl) ?_ | with_reducible first | refine lwV_out ?_ | refine lwV_out0 ?_ | refine lkC_out ?_ | refine And.intro (by omega) ?_ | fail)
          refine ⟨k - 1, by omega, q + 1, by omega, ?_⟩
          repeat (first | (simp (maxSteps := 1000000) only [↓reduceIte, go_sem, g0, g4]) | (simp (maxSteps := 1000000) (disch := first | omega | assumption) only [BB, g0, g4]) | with_reducible refine Gst.now ?_ | with_reducible refine vawp_draw mixed (by kernel_rfl) ?_ | with_reducible first | refine lwV_out ?_ | refine lwV_out0 ?_ | refine lkC_out ?_ | refine And.intro (by omega) ?_ | fail)
          refine ⟨by rw [Nat.pow_succ, ← Nat.div_div_eq_div_mul], j', hj', ⟨rfl, by omega⟩, ?_⟩
          rw [bits8_take (by omega), ← List.append_assoc, List.map_append (l₁ := bitsOf (bs.take i) ++ (bits8 c).take q)]
          rfl
        · have hq : q = 8 := by omega
          subst hq
          repeat (first | (simp (maxSteps := 1000000) only [↓reduceIte, go_sem, g4]) | (simp (maxSteps := 1000000) (disch := first | omega | assumption) only [BB, g4]) | with_reducible refine Gst.now ?_ | with_reducible refine vawp_draw mixed (by kernel_rfl) ?_ | with_reducible first | refine lwV_out ?_ | refine lwV_out0 ?_ | refine lkC_out ?_ | refine And.intro (by omega) ?_ | fail)
          refine ⟨k0 - 1, by omega, i + 1, by omega, ?_⟩
          repeat (first | (simp (maxSteps := 1000000) only [↓reduceIte, go_sem, g0, g3]) | (simp (maxSteps := 1000000) (disch := first | omega | assumption) only [BB, g0, g3]) | with_reducible refine Gst.now ?_ | with_reducible refine vawp_draw mixed (by kernel_rfl) ?_ | with_reducible first | refine lwV_out ?_ | refine lwV_out0 ?_ | refine lkC_out ?_ | refine And.intro (by omega) ?_ | fail)
          refine ⟨j, hj, ⟨rfl, by omega⟩, ?_⟩
          rw [bitsOf_take (by omega), hcd]; rfl
    · repeat (first | (simp (maxSteps := 1000000) only [↓reduceIte, go_sem, f3]) | (simp (maxSteps := 1000000) (disch := first | omega | assumption) only [BB, f3]) | with_reducible refine Gst.now ?_ | with_reducible refine vawp_draw mixed (by kernel_rfl) ?_ | with_reducible first | refine lwV_out ?_ | refine lwV_out0 ?_ | refine lkC_out ?_ | refine And.intro (by omega) ?_ | fail)
      refine hq _ _ ?_
      repeat (first | (simp (maxSteps := 1000000) only [↓reduceIte, go_sem]) | (simp (maxSteps := 1000000) (disch := first | omega | assumption) only [BB]) | with_reducible refine Gst.now ?_ | with_reducible refine vawp_draw mixed (by kernel_rfl) ?_ | with_reducible first | refine lwV_out ?_ | refine lwV_out0 ?_ | refine lkC_out ?_ | refine And.intro (by omega) ?_ | fail)
      have hi : i = bs.length := by omega
      have := hK j1 hj1
      rw [bitsOf_len] at this
      rw [hi, List.take_length]
      exact this
theorem begins_v {l c N : Nat} {nl : Bool} {H : List Nat} (hl : l = H.length) (hb : H.length ≤ 140737488355328) (hN : N ≤ 15) (hc : c < 4294967296) (hK : K (.sc (.bool (decide (H.length ≤ N ∧ (codeTo c N N).take H.length = H)))) h) : VC Try.prog GL (n + 4) 28 [(.sc (.int .u32 (c))), (.sc (.int .i64 ((N : Nat)))), .isl nl l (H.map (iv .u8))] h K := by
  refine VC_go Try.func28 rfl (by decide) Try.ntmps28 Try.results28 rfl fun Q hq hn => ?_
  subst hl
  have h32 : hs32 ((N : Nat) : Int) = N := by unfold hs32; omega
  have hcl := codeTo_len c N N
  repeat (first | (simp (maxSteps := 1000000) only [↓reduceIte, go_sem]) | (simp (maxSteps := 1000000) (disch := first | omega | assumption) only [BB]) | with_reducible refine Gst.now ?_ | with_reducible refine vawp_draw mixed (by kernel_rfl) ?_ | with_reducible first | refine lwV_out ?_ | refine lwV_out0 ?_ | refine lkC_out ?_ | refine And.intro (by omega) ?_ | fail)
  with_reducible refine call_ok ?_
  refine rcode_v (X := []) rfl (by simp) hc fun j hj => .iso hj ?_
  rw [h32, List.nil_append, List.length_nil, Nat.zero_add]
  generalize codeTo c N N = L at *
  subst hcl
  repeat (first | (simp (maxSteps := 1000000) only [↓reduceIte, go_sem]) | (simp (maxSteps := 1000000) (disch := first | omega | assumption) only [BB]) | with_reducible refine Gst.now ?_ | with_reducible refine vawp_draw mixed (by kernel_rfl) ?_ | with_reducible first | refine lwV_out ?_ | refine lwV_out0 ?_ | refine lkC_out ?_ | refine And.intro (by omega) ?_ | fail)
  split
  · rename_i hlt
    have e : decide (H.length ≤ L.length ∧ L.take H.length = H) = false := decide_eq_false fun hh => by omega
    rw [e] at hK
    repeat (first | (simp (maxSteps := 1000000) only [↓reduceIte, go_sem]) | (simp (maxSteps := 1000000) (disch := first | omega | assumption) only [BB]) | with_reducible refine Gst.now ?_ | with_reducible refine vawp_draw mixed (by kernel_rfl) ?_ | with_reducible first | refine lwV_out ?_ | refine lwV_out0 ?_ | refine lkC_out ?_ | refine And.intro (by omega) ?_ | fail)
    refine hq _ _ ?_
    repeat (first | (simp (maxSteps := 1000000) only [↓reduceIte, go_sem]) | (simp (maxSteps := 1000000) (disch := first | omega | assumption) only [BB]) | with_reducible refine Gst.now ?_ | with_reducible refine vawp_draw mixed (by kernel_rfl) ?_ | with_reducible first | refine lwV_out ?_ | refine lwV_out0 ?_ | refine lkC_out ?_ | refine And.intro (by omega) ?_ | fail)
    exact .now hK
  · rename_i hlt
    have e : decide (H.length ≤ L.length ∧ L.take H.length = H) = decide (L.take H.length = H) := by
      by_cases hh : L.take H.length = H
      · rw [decide_eq_true hh, decide_eq_true ⟨by omega, hh⟩]
      · rw [decide_eq_false hh, decide_eq_false fun hq => hh hq.2]
    rw [e] at hK
    repeat (first | (simp (maxSteps := 1000000) only [↓reduceIte, go_sem]) | (simp (maxSteps := 1000000) (disch := first | omega | assumption) only [BB]) | with_reducible refine Gst.now ?_ | with_reducible refine vawp_draw mixed (by kernel_rfl) ?_ | with_reducible first | refine lwV_out ?_ | refine lwV_out0 ?_ | refine lkC_out ?_ | refine And.intro (by omega) ?_ | fail)
    with_reducible refine call_ok ?_
    refine same_v (xs := L.take H.length) (by rw [List.length_take]; omega) rfl (by rw [List.length_take]; omega) (by omega) ?_
    repeat (first | (simp (maxSteps := 1000000) only [↓reduceIte, go_sem]) | (simp (maxSteps := 1000000) (disch := first | omega | assumption) only [BB]) | with_reducible refine Gst.now ?_ | with_reducible refine vawp_draw mixed (by kernel_rfl) ?_ | with_reducible first | refine lwV_out ?_ | refine lwV_out0 ?_ | refine lkC_out ?_ | refine And.intro (by omega) ?_ | fail)
    refine hq _ _ ?_
    repeat (first | (simp (maxSteps := 1000000) only [↓reduceIte, go_sem]) | (simp (maxSteps := 1000000) (disch := first | omega | assumption) only [BB]) | with_reducible refine Gst.now ?_ | with_reducible refine vawp_draw mixed (by kernel_rfl) ?_ | with_reducible first | refine lwV_out ?_ | refine lwV_out0 ?_ | refine lkC_out ?_ | refine And.intro (by omega) ?_ | fail)
    exact .now hK
end
end Go.Proofs.Ytncicgfbnjneeaa.VBitsR
