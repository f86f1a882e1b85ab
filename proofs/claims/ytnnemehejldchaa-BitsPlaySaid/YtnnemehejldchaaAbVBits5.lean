/- the reference's rows of bits, over the machine of values: all bits of bytes, bytes of bits, numbers of bits. -/
import Derived.Test.YtnnemehejldchaaProg
import Derived.Test.YtnnemehejldchaaAbV9
import Derived.Test.YtnnemehejldchaaAbFacts
import Derived.Test.YtnnemehejldchaaAbBitsM
import Derived.Test.YtnnemehejldchaaAbVBits
import Derived.Test.YtnnemehejldchaaAbVBits4
import Derived.KernelRfl
import Derived.Laws.BitsAllLaws
set_option linter.unusedVariables false
set_option linter.unusedSimpArgs false
set_option maxRecDepth 100000
set_option maxHeartbeats 4000000
namespace Go.Proofs.Ytnnemehejldchaa.VBits5
open Go.RowKit Go.Proofs.AbM Go.Proofs.Ytnnemehejldchaa.Facts Go.Proofs.Ytnnemehejldchaa.BitsM Go.Proofs.Ytnnemehejldchaa.VBits Go.Proofs.Ytnnemehejldchaa.VBits4
attribute [local go_sem] vawp_skip_eq vawp_seq_eq vawp_region_eq vawp_cond_ite vawp_block_eq vawp_exit_eq vawp_ret_eq thenV_ret thenV_exit thenV_normal inBlockV_normal inBlockV_ret inBlockV_exit resKV_nil resKV_tmp resKV_cell oneV_one oneV_nil oneV_more initV_nil initV_cons updV_at evv_tmp evv_func evv_global evv_int evv_bool evv_str evv_snil evv_pnil evv_agg ofV3_int ofV3_bool ofV3_str ofV3_snil ofV3_pnil vok_tmp vok_func vok_global vok_int vok_bool vok_str vok_snil vok_pnil vok_agg cloV3_int cloV3_bool cloV3_str cloV3_snil cloV3_pnil voks_nil voks_cons scV_int scV_bool scV_str isBlV_b isBV_t isBV_f lwV_none lwV_sc lwV_agg lwV_tup lwV_isl lwV_own lwV_op lwV_ip lwV_fn lwV_junk vops_nil vops_n vops_s gsN_eq vop dstOk_some dstOk_none pkV_b blkV_set eRead_f eRead_t vLoad_op vLoad_ip vStore_op cells_sc cells_isl cells_own cells_op cells_ip cells_fn cells_agg parts_sc parts_isl parts_own parts_op parts_ip parts_fn parts_agg one_sc one_isl one_own one_op one_ip one_fn vField_op vField_ip ePart_f ePart_t vFieldV_agg vIx_isl vIx_own vIx_op vIx_ip vIxV_agg vIxV_str vLen_str vLen_isl vLen_own vLen_agg bndE_none bndE_int vSlice_isl vSlice_str vBin_add vBin_sub vBin_mul vBin_quo vBin_rem vBin_and vBin_or vBin_xor vBin_andNot vBin_eql vBin_neq vBin_lss vBin_leq vBin_gtr vBin_geq vBin_shr_i8 vBin_shl_i8 vBin_shr_i16 vBin_shl_i16 vBin_shr_i32 vBin_shl_i32 vBin_shr_i64 vBin_shl_i64 vBin_shr_u8 vBin_shl_u8 vBin_shr_u16 vBin_shl_u16 vBin_shr_u32 vBin_shl_u32 vBin_shr_u64 vBin_shl_u64 vBin_seq vBin_sne vBin_isln vBin_opn vBin_ipn ex_sc ex_sc2 ex_sc3 ex_tup calleeV wSc_pb wSc_pi wSc_not wSc_neg wSc_com wSc_min2 wSc_max2 vfold_nil vfold_one vfold_cons vfill_nil vfill_e eFill_s vBuild vBox vAlloc setV_map setV_zs setV_zn setV_s hset_hset eConv_ss vConv_e iv_eq ivI_eq ex_get ex_getI set_iv set_ivI okNil isNilV isSlV hdel_at hset_at List.map_toArray List.map_cons List.map_nil List.nil_append List.cons_append List.append_nil List.toList_toArray List.getElem?_toArray List.getElem_toArray List.getElem_cons_zero List.getElem_cons_succ List.getElem?_cons_zero List.getElem?_cons_succ List.set_cons_zero List.set_cons_succ List.set_set List.length_cons List.length_nil List.length_set List.length_map List.all_cons List.all_nil List.drop_zero List.drop_succ_cons List.take_succ_cons List.take_zero List.flatMap_cons Bool.and_eq_true true_and and_true if_true if_false ite_true ite_false forall_eq' forall_eq exists_eq_left exists_eq_left' exists_eq' Value.bool.injEq Value.int.injEq Value.string.injEq Value.pointer.injEq Option.some.injEq AV.sc.injEq AV.op.injEq AV.ip.injEq AV.own.injEq AV.agg.injEq VB.cells.injEq VB.iter.injEq Prod.mk.injEq decide_eq_true_eq decide_eq_false_iff_not Nat.reduceEqDiff Nat.reduceLT Nat.reduceLeDiff Nat.reduceSub Nat.reduceBEq reduceIte Int.reduceLE Int.reduceLT Int.reduceToNat Int.reduceNeg Int.reduceEq Int.reduceNe Int.cast_ofNat_Int Nat.reduceMul Nat.reduceAdd Nat.reduceDiv Nat.reduceMod Nat.reducePow Int.reduceSub Int.reduceAdd Int.reduceMul Int.reducePow Option.isSome_some Option.isSome_none Option.bind_some Option.map_some Option.map_none Option.toList_some Option.toList_none true_or or_true or_false false_or Bool.not_true Bool.not_false Bool.not_eq_true Bool.false_eq_true Bool.not_not false_implies true_implies implies_true Nat.zero_add Nat.add_zero Nat.mul_one Bool.not_eq_true' Bool.true_eq_false Bool.and_true Bool.true_and Bool.and_false Bool.false_and Bool.or_true Bool.true_or Bool.or_false Bool.false_or Option.isNone_some Option.isNone_none Int.reduceBEq Int.reduceBNe beq_self_eq_true bne_self_eq_false beq_iff_eq not_false_eq_true not_true_eq_false Decidable.not_not bne_iff_ne ne_eq Int.toNat_natCast gt_lt ge_le c_add c_mul c_sub c_addn c_nadd c_muln c_nmul c_subn c_nsub c_divn c_modn c_div c_mod c_tdivn c_tmodn c_tdiv c_tmod c_pow c_nn c_beq c_beqn c_bne c_bnen wr64 wr32 wru64 wru32 wru16 wru8 c_if c_lt c_le c_eq c_ltn c_len c_nlt c_nle c_eqn m_drop m_take Nat.add_sub_cancel_left Nat.add_sub_cancel Int.reduceTMod Int.reduceTDiv Int.reduceMod Int.reduceDiv isC_some hset_ne hdel_ne hdel_hset hdel_hset_ne blkV_nset blkV_ndel hset_hdel
attribute [local go_sem high] vops_pk vops_mv vops_as vops_smv
attribute [local go_sem] ag3 sz3 zc3 ik3 ag4 sz4 zc4 ag5 sz5 zc5 ik5 ag9 sz9 zc9 iq9 ag22 sz22 el22 zc22 is22 ag25 sz25 el25 zc25 is25 ag27 sz27 zc27 bo27 ag28 sz28 zc28 ik28 ag30 sz30 zc30 bo30 ag32 sz32 zc32 pt32 ag49 sz49 zc49 pt49 ag54 sz54 zc54 bo54 of27_0 fd27_0 of27_1 fd27_1 of30_0 fd30_0 of30_1 fd30_1 of30_2 fd30_2 of30_3 fd30_3 of54_0 fd54_0 of54_1 fd54_1 eqb neb
section
variable {n : Nat} {h : VH} {K : AV → VH → Prop}
theorem rbits_v {l : Nat} {nl : Bool} {bs : List Nat} (hl : l = bs.length) (hb : bs.length < 400000000) (hbs : ∀ b ∈ bs, b < 256) (hK : ∀ j, h j = none → FrK K (.own j 0 (bitsOf bs).length) (hset h j (.cells 5 false ((bitsOf bs).map (iv .u8))))) : VC Try.prog GL (n + 1) 22 [.isl nl l (bs.map (iv .u8))] h K := by
  refine VC_go Try.func22 rfl (by decide) Try.ntmps22 Try.results22 rfl fun Q hq hn => ?_
  subst hl
  repeat (first | simp (disch := first | omega | assumption) only [↓reduceIte, go_sem] | with_reducible refine Gst.now ?_ | with_reducible refine vawp_draw mixed (by kernel_rfl) ?_ | with_reducible first | refine lwV_out ?_ | refine lwV_out0 ?_ | refine And.intro (by omega) ?_ | fail)
  refine vBuildS_o bs25 ?_ ?_ ?_ ?_ ?_
  rfl
  rfl
  rfl
  rfl
  intro j0 hj0
  repeat (first | simp (disch := first | omega | assumption) only [↓reduceIte, go_sem] | with_reducible refine Gst.now ?_ | with_reducible refine vawp_draw mixed (by kernel_rfl) ?_ | with_reducible first | refine lwV_out ?_ | refine lwV_out0 ?_ | refine And.intro (by omega) ?_ | fail)
  refine vawp_loop (k := bs.length) (fun k ρ h1 => ∃ i : Nat, k + i = bs.length ∧ ρ 0 = .isl nl bs.length (bs.map (iv .u8)) ∧ ρ 4 = (.sc (.int .i64 (i))) ∧ ∃ j, h j = none ∧ ρ 3 = .own j 0 (8 * i) ∧ h1 = hset h j (.cells 5 false ((bitsOf (bs.take i)).map (iv .u8)))) ?_ ?_
  · refine ⟨0, by omega, ?_⟩
    repeat (first | simp (disch := first | omega | assumption) only [↓reduceIte, go_sem] | with_reducible refine Gst.now ?_ | with_reducible refine vawp_draw mixed (by kernel_rfl) ?_ | with_reducible first | refine lwV_out ?_ | refine lwV_out0 ?_ | refine And.intro (by omega) ?_ | fail)
    exact ⟨j0, hj0, rfl, by simp [bitsOf]⟩
  · rintro k0 ρ0 h1 ⟨i, hki, f0, f4, j1, hj1, f3, rfl⟩
    repeat (first | simp (disch := first | omega | assumption) only [↓reduceIte, go_sem, f0, f4] | with_reducible refine Gst.now ?_ | with_reducible refine vawp_draw mixed (by kernel_rfl) ?_ | with_reducible first | refine lwV_out ?_ | refine lwV_out0 ?_ | refine And.intro (by omega) ?_ | fail)
    split
    · repeat (first | simp (disch := first | omega | assumption) only [↓reduceIte, go_sem, f0, f4] | with_reducible refine Gst.now ?_ | with_reducible refine vawp_draw mixed (by kernel_rfl) ?_ | with_reducible first | refine lwV_out ?_ | refine lwV_out0 ?_ | refine And.intro (by omega) ?_ | fail)
      have hc := getD_lt hbs i
      generalize hcd : bs.getD i 0 = c at *
      refine vawp_loop (k := 8) (fun k ρ h1 => ∃ q : Nat, k + q = 8 ∧ ρ 0 = .isl nl bs.length (bs.map (iv .u8)) ∧ ρ 4 = (.sc (.int .i64 (i))) ∧ ρ 5 = (.sc (.int .u8 ((c / 2 ^ q : Nat)))) ∧ ρ 6 = (.sc (.int .i64 (q))) ∧ ∃ j, h j = none ∧ ρ 3 = .own j 0 (8 * i + q) ∧ h1 = hset h j (.cells 5 false ((bitsOf (bs.take i) ++ (bits8 c).take q).map (iv .u8)))) ?_ ?_
      · refine ⟨0, by omega, ?_⟩
        repeat (first | simp (disch := first | omega | assumption) only [↓reduceIte, go_sem, f0, f3, f4] | with_reducible refine Gst.now ?_ | with_reducible refine vawp_draw mixed (by kernel_rfl) ?_ | with_reducible first | refine lwV_out ?_ | refine lwV_out0 ?_ | refine And.intro (by omega) ?_ | fail)
        exact ⟨j1, hj1, rfl, by simp⟩
      · rintro k ρ h1 ⟨q, hkq, g0, g4, g5, g6, j, hj, g3, rfl⟩
        have hlen : (bitsOf (bs.take i)).length = 8 * i := by rw [bitsOf_len, List.length_take]; omega
        have h8 : (bits8 c).length = 8 := rfl
        have hcq : c / 2 ^ q < 256 := Nat.lt_of_le_of_lt (Nat.div_le_self _ _) hc
        repeat (first | simp (disch := first | omega | assumption) only [↓reduceIte, go_sem, g0, g4, g5, g6] | with_reducible refine Gst.now ?_ | with_reducible refine vawp_draw mixed (by kernel_rfl) ?_ | with_reducible first | refine lwV_out ?_ | refine lwV_out0 ?_ | refine And.intro (by omega) ?_ | fail)
        split
        · repeat (first | simp (disch := first | omega | assumption) only [↓reduceIte, go_sem, g3, g5] | with_reducible refine Gst.now ?_ | with_reducible refine vawp_draw mixed (by kernel_rfl) ?_ | with_reducible first | refine lwV_out ?_ | refine lwV_out0 ?_ | refine And.intro (by omega) ?_ | fail)
          refine vBuildS_i bs25 ?_ ?_ ?_ ?_ ?_
          rfl
          rfl
          rfl
          rfl
          repeat (first | simp (disch := first | omega | assumption) only [↓reduceIte, go_sem] | with_reducible refine Gst.now ?_ | with_reducible refine vawp_draw mixed (by kernel_rfl) ?_ | with_reducible first | refine lwV_out ?_ | refine lwV_out0 ?_ | refine And.intro (by omega) ?_ | fail)
          apply vApp_own_isl ap25 (by simp only [go_sem])
          case hv => first | (simp [hlen, h8]; done) | (simp [hlen, h8]; omega)
          case hj => repeat (first | exact hset_at _ _ _ | assumption | refine (hset_ne _ _ (by first | omega | assumption)).trans ?_ | refine (hdel_ne _ (by first | omega | assumption)).trans ?_ | fail)
          case hl => first | (simp [hlen, h8]; done) | (simp [hlen, h8]; omega)
          case h1 => first | omega | (simp [hlen, h8]; omega) | (simp [hlen, h8]; done)
          case h2 => first | omega | (simp [hlen, h8]; omega) | (simp [hlen, h8]; done)
          intro j' hj'
          simp (disch := first | omega | assumption) only [go_sem, hset_none, hdel_none] at hj'
          try simp (disch := first | omega | assumption) only [hset_none, hdel_none] at hj'
          have ew : IntKind.u8.wrap ((c / 2 ^ q / 2 : Nat) : Int) = ((c / 2 ^ q / 2 : Nat) : Int) := by
            generalize c / 2 ^ q = y at *
            exact wru8 (by omega) (by omega)
          repeat (first | simp (disch := first | omega | assumption) only [↓reduceIte, go_sem, g5, g6, ew] | with_reducible refine Gst.now ?_ | with_reducible refine vawp_draw mixed (by kernel_rfl) ?_ | with_reducible first | refine lwV_out ?_ | refine lwV_out0 ?_ | refine And.intro (by omega) ?_ | fail)
          refine ⟨k - 1, by omega, q + 1, by omega, ?_⟩
          repeat (first | simp (disch := first | omega | assumption) only [↓reduceIte, go_sem, g0, g4] | with_reducible refine Gst.now ?_ | with_reducible refine vawp_draw mixed (by kernel_rfl) ?_ | with_reducible first | refine lwV_out ?_ | refine lwV_out0 ?_ | refine And.intro (by omega) ?_ | fail)
          refine ⟨by rw [Nat.pow_succ, ← Nat.div_div_eq_div_mul], j', hj', ⟨rfl, by omega⟩, ?_⟩
          rw [bits8_take (by omega), ← List.append_assoc, List.map_append (l₁ := bitsOf (bs.take i) ++ (bits8 c).take q)]
          rfl
        · have hq : q = 8 := by omega
          subst hq
          repeat (first | simp (disch := first | omega | assumption) only [↓reduceIte, go_sem, g4] | with_reducible refine Gst.now ?_ | with_reducible refine vawp_draw mixed (by kernel_rfl) ?_ | with_reducible first | refine lwV_out ?_ | refine lwV_out0 ?_ | refine And.intro (by omega) ?_ | fail)
          refine ⟨k0 - 1, by omega, i + 1, by omega, ?_⟩
          repeat (first | simp (disch := first | omega | assumption) only [↓reduceIte, go_sem, g0, g3] | with_reducible refine Gst.now ?_ | with_reducible refine vawp_draw mixed (by kernel_rfl) ?_ | with_reducible first | refine lwV_out ?_ | refine lwV_out0 ?_ | refine And.intro (by omega) ?_ | fail)
          refine ⟨j, hj, ⟨rfl, by omega⟩, ?_⟩
          rw [bitsOf_take (by omega), hcd]; rfl
    · repeat (first | simp (disch := first | omega | assumption) only [↓reduceIte, go_sem, f3] | with_reducible refine Gst.now ?_ | with_reducible refine vawp_draw mixed (by kernel_rfl) ?_ | with_reducible first | refine lwV_out ?_ | refine lwV_out0 ?_ | refine And.intro (by omega) ?_ | fail)
      refine hq _ _ ?_
      repeat (first | simp (disch := first | omega | assumption) only [↓reduceIte, go_sem] | with_reducible refine Gst.now ?_ | with_reducible refine vawp_draw mixed (by kernel_rfl) ?_ | with_reducible first | refine lwV_out ?_ | refine lwV_out0 ?_ | refine And.intro (by omega) ?_ | fail)
      have hi : i = bs.length := by omega
      have := hK j1 hj1
      rw [bitsOf_len] at this
      rw [hi, List.take_length]
      exact this
theorem rget_v {l at_ : Nat} {nl : Bool} {X : List Nat} {m : Int} (hl : l = X.length) (hb : X.length < 4000000000) (hX : IsBits X) (ha : at_ ≤ X.length)
    (hK1 : X.length < at_ + hs32 m → K (.tup [(.sc (.int .u32 (0))), (.sc (.bool (false)))]) h)
    (hK2 : at_ + hs32 m ≤ X.length → K (.tup [(.sc (.int .u32 ((numB ((X.drop at_).take (hs32 m)) : Nat)))), (.sc (.bool (true)))]) h) : VC Try.prog GL (n + 2) 25 [.isl nl l (X.map (iv .u8)), (.sc (.int .i64 ((at_ : Nat)))), (.sc (.int .i64 (m)))] h K := by
  refine VC_go Try.func25 rfl (by decide) Try.ntmps25 Try.results25 rfl fun Q hq hn => ?_
  subst hl
  repeat (first | simp (disch := first | omega | assumption) only [↓reduceIte, go_sem] | with_reducible refine Gst.now ?_ | with_reducible refine vawp_draw mixed (by kernel_rfl) ?_ | with_reducible first | refine lwV_out ?_ | refine lwV_out0 ?_ | refine And.intro (by omega) ?_ | fail)
  with_reducible refine call_ok ?_
  refine refHeld_v (by omega) ?_
  have em : max 0 (min m 32) = ((hs32 m : Nat) : Int) := by unfold hs32; omega
  rw [em]
  have hm : hs32 m ≤ 32 := by unfold hs32; omega
  generalize hs32 m = N at *
  repeat (first | simp (disch := first | omega | assumption) only [↓reduceIte, go_sem] | with_reducible refine Gst.now ?_ | with_reducible refine vawp_draw mixed (by kernel_rfl) ?_ | with_reducible first | refine lwV_out ?_ | refine lwV_out0 ?_ | refine And.intro (by omega) ?_ | fail)
  split
  · repeat (first | simp (disch := first | omega | assumption) only [↓reduceIte, go_sem] | with_reducible refine Gst.now ?_ | with_reducible refine vawp_draw mixed (by kernel_rfl) ?_ | with_reducible first | refine lwV_out ?_ | refine lwV_out0 ?_ | refine And.intro (by omega) ?_ | fail)
    refine hq _ _ ?_
    repeat (first | simp (disch := first | omega | assumption) only [↓reduceIte, go_sem] | with_reducible refine Gst.now ?_ | with_reducible refine vawp_draw mixed (by kernel_rfl) ?_ | with_reducible first | refine lwV_out ?_ | refine lwV_out0 ?_ | refine And.intro (by omega) ?_ | fail)
    exact .now (hK1 (by omega))
  · repeat (first | simp (disch := first | omega | assumption) only [↓reduceIte, go_sem] | with_reducible refine Gst.now ?_ | with_reducible refine vawp_draw mixed (by kernel_rfl) ?_ | with_reducible first | refine lwV_out ?_ | refine lwV_out0 ?_ | refine And.intro (by omega) ?_ | fail)
    refine vawp_loop (k := N) (fun k ρ h1 => k ≤ N ∧ ρ 0 = .isl nl X.length (X.map (iv .u8)) ∧ ρ 1 = (.sc (.int .i64 ((at_ : Nat)))) ∧ ρ 8 = (.sc (.int .u32 ((numB ((X.drop (at_ + k)).take (N - k)) : Nat)))) ∧ ρ 9 = (.sc (.int .i64 ((k : Int) - 1))) ∧ h1 = h) ?_ ?_
    · repeat (first | simp (disch := first | omega | assumption) only [↓reduceIte, go_sem] | with_reducible refine Gst.now ?_ | with_reducible refine vawp_draw mixed (by kernel_rfl) ?_ | with_reducible first | refine lwV_out ?_ | refine lwV_out0 ?_ | refine And.intro (by omega) ?_ | fail)
      simp [numB]
    · rintro k ρ h1 ⟨hkN, g0, g1, g8, g9, rfl⟩
      repeat (first | simp (disch := first | omega | assumption) only [↓reduceIte, go_sem, g0, g1, g8, g9] | with_reducible refine Gst.now ?_ | with_reducible refine vawp_draw mixed (by kernel_rfl) ?_ | with_reducible first | refine lwV_out ?_ | refine lwV_out0 ?_ | refine And.intro (by omega) ?_ | fail)
      split
      · obtain ⟨k, rfl⟩ : ∃ k', k = k' + 1 := ⟨k - 1, by omega⟩
        have e0 : ((k + 1 : Nat) : Int) - 1 = (k : Int) := by omega
        rw [e0] at g9
        have hlt := numB_dlt hX (a := at_ + (k + 1)) (k := N - (k + 1))
        have hle : 2 ^ (N - (k + 1)) * 2 ≤ 4294967296 := by
          have : 2 ^ (N - (k + 1) + 1) ≤ 2 ^ 32 := Nat.pow_le_pow_right (by omega) (by omega)
          rw [Nat.pow_succ] at this; exact this
        have hb2 := hX.getD (at_ + k)
        have e7 : numB ((X.drop (at_ + k)).take (N - k)) = X.getD (at_ + k) 0 + 2 * numB ((X.drop (at_ + (k + 1))).take (N - (k + 1))) := by
          rw [show N - k = (N - (k + 1)) + 1 by omega, numB_drop (by omega)]; rfl
        generalize 2 ^ (N - (k + 1)) = M at *
        generalize numB ((X.drop (at_ + (k + 1))).take (N - (k + 1))) = y at *
        repeat (first | simp (disch := first | omega | assumption) only [↓reduceIte, go_sem, g0, g1, g8, g9] | with_reducible refine Gst.now ?_ | with_reducible refine vawp_draw mixed (by kernel_rfl) ?_ | with_reducible first | refine lwV_out ?_ | refine lwV_out0 ?_ | refine And.intro (by omega) ?_ | fail)
        refine ⟨k, by omega, by omega, ?_⟩
        repeat (first | simp (disch := first | omega | assumption) only [↓reduceIte, go_sem, g0, g1] | with_reducible refine Gst.now ?_ | with_reducible refine vawp_draw mixed (by kernel_rfl) ?_ | with_reducible first | refine lwV_out ?_ | refine lwV_out0 ?_ | refine And.intro (by omega) ?_ | fail)
        rw [e7, Nat.add_comm]
      · have hk : k = 0 := by omega
        subst hk
        repeat (first | simp (disch := first | omega | assumption) only [↓reduceIte, go_sem, g8] | with_reducible refine Gst.now ?_ | with_reducible refine vawp_draw mixed (by kernel_rfl) ?_ | with_reducible first | refine lwV_out ?_ | refine lwV_out0 ?_ | refine And.intro (by omega) ?_ | fail)
        refine hq _ _ ?_
        repeat (first | simp (disch := first | omega | assumption) only [↓reduceIte, go_sem] | with_reducible refine Gst.now ?_ | with_reducible refine vawp_draw mixed (by kernel_rfl) ?_ | with_reducible first | refine lwV_out ?_ | refine lwV_out0 ?_ | refine And.intro (by omega) ?_ | fail)
        exact .now (hK2 (by omega))
theorem rpack_v {l : Nat} {nl : Bool} {X : List Nat} (hl : l = X.length) (hb : X.length < 4000000000) (hX : IsBits X) (hK : ∀ j, h j = none → FrK K (.own j 0 (packB X).length) (hset h j (.cells 5 false ((packB X).map (iv .u8))))) : VC Try.prog GL (n + 3) 24 [.isl nl l (X.map (iv .u8))] h K := by
  refine VC_go Try.func24 rfl (by decide) Try.ntmps24 Try.results24 rfl fun Q hq hn => ?_
  subst hl
  repeat (first | simp (disch := first | omega | assumption) only [↓reduceIte, go_sem] | with_reducible refine Gst.now ?_ | with_reducible refine vawp_draw mixed (by kernel_rfl) ?_ | with_reducible first | refine lwV_out ?_ | refine lwV_out0 ?_ | refine And.intro (by omega) ?_ | fail)
  with_reducible refine call_ok ?_
  refine ralign0_v rfl (by omega) fun j hj => .iso hj ?_
  repeat (first | simp (disch := first | omega | assumption) only [↓reduceIte, go_sem] | with_reducible refine Gst.now ?_ | with_reducible refine vawp_draw mixed (by kernel_rfl) ?_ | with_reducible first | refine lwV_out ?_ | refine lwV_out0 ?_ | refine And.intro (by omega) ?_ | fail)
  refine vBuildS_o bs25 ?_ ?_ ?_ ?_ ?_
  rfl
  rfl
  rfl
  rfl
  intro j0 hj0
  repeat (first | simp (disch := first | omega | assumption) only [↓reduceIte, go_sem] | with_reducible refine Gst.now ?_ | with_reducible refine vawp_draw mixed (by kernel_rfl) ?_ | with_reducible first | refine lwV_out ?_ | refine lwV_out0 ?_ | refine And.intro (by omega) ?_ | fail)
  have hpl := padB_len X
  have hpb := padB_bits hX
  refine vawp_loop (k := (X.length + 7) / 8) (fun k ρ h1 => ∃ i : Nat, k + i = (X.length + 7) / 8 ∧ ρ 3 = .isl false (padB X).length ((padB X).map (iv .u8)) ∧ ρ 5 = (.sc (.int .i64 ((8 * i : Nat)))) ∧ ∃ j, h j = none ∧ ρ 4 = .own j 0 i ∧ h1 = hset h j (.cells 5 false (((packB X).take i).map (iv .u8)))) ?_ ?_
  · refine ⟨0, by omega, ?_⟩
    repeat (first | simp (disch := first | omega | assumption) only [↓reduceIte, go_sem] | with_reducible refine Gst.now ?_ | with_reducible refine vawp_draw mixed (by kernel_rfl) ?_ | with_reducible first | refine lwV_out ?_ | refine lwV_out0 ?_ | refine And.intro (by omega) ?_ | fail)
    exact ⟨j0, hj0, rfl, by simp⟩
  · rintro k0 ρ0 h1 ⟨i, hki, f3, f5, j1, hj1, f4, rfl⟩
    repeat (first | simp (disch := first | omega | assumption) only [↓reduceIte, go_sem, f3, f5] | with_reducible refine Gst.now ?_ | with_reducible refine vawp_draw mixed (by kernel_rfl) ?_ | with_reducible first | refine lwV_out ?_ | refine lwV_out0 ?_ | refine And.intro (by omega) ?_ | fail)
    split
    · have hi : i < (X.length + 7) / 8 := by omega
      repeat (first | simp (disch := first | omega | assumption) only [↓reduceIte, go_sem, f3, f5] | with_reducible refine Gst.now ?_ | with_reducible refine vawp_draw mixed (by kernel_rfl) ?_ | with_reducible first | refine lwV_out ?_ | refine lwV_out0 ?_ | refine And.intro (by omega) ?_ | fail)
      refine vawp_loop (k := 8) (fun k ρ h1 => k ≤ 8 ∧ ρ 3 = .isl false (padB X).length ((padB X).map (iv .u8)) ∧ ρ 5 = (.sc (.int .i64 ((8 * i : Nat)))) ∧ ρ 4 = .own j1 0 i ∧ ρ 6 = (.sc (.int .u8 ((numB (((padB X).drop (8 * i + k)).take (8 - k)) : Nat)))) ∧ ρ 7 = (.sc (.int .i64 ((k : Int) - 1))) ∧ h1 = hset h j1 (.cells 5 false (((packB X).take i).map (iv .u8)))) ?_ ?_
      · repeat (first | simp (disch := first | omega | assumption) only [↓reduceIte, go_sem, f3, f4, f5] | with_reducible refine Gst.now ?_ | with_reducible refine vawp_draw mixed (by kernel_rfl) ?_ | with_reducible first | refine lwV_out ?_ | refine lwV_out0 ?_ | refine And.intro (by omega) ?_ | fail)
        simp [numB]
      · rintro k ρ h1 ⟨hk8, g3, g5, g4, g6, g7, rfl⟩
        repeat (first | simp (disch := first | omega | assumption) only [↓reduceIte, go_sem, g3, g5, g6, g7] | with_reducible refine Gst.now ?_ | with_reducible refine vawp_draw mixed (by kernel_rfl) ?_ | with_reducible first | refine lwV_out ?_ | refine lwV_out0 ?_ | refine And.intro (by omega) ?_ | fail)
        split
        · obtain ⟨k, rfl⟩ : ∃ k', k = k' + 1 := ⟨k - 1, by omega⟩
          have e0 : ((k + 1 : Nat) : Int) - 1 = (k : Int) := by omega
          rw [e0] at g7
          have hlt := numB_dlt hpb (a := 8 * i + (k + 1)) (k := 8 - (k + 1))
          have hle : 2 ^ (8 - (k + 1)) * 2 ≤ 256 := by
            have : 2 ^ (8 - (k + 1) + 1) ≤ 2 ^ 8 := Nat.pow_le_pow_right (by omega) (by omega)
            rw [Nat.pow_succ] at this; exact this
          have hb2 := hpb.getD (8 * i + k)
          have e7 : numB (((padB X).drop (8 * i + k)).take (8 - k)) = (padB X).getD (8 * i + k) 0 + 2 * numB (((padB X).drop (8 * i + (k + 1))).take (8 - (k + 1))) := by
            rw [show 8 - k = (8 - (k + 1)) + 1 by omega, numB_drop (by omega)]; rfl
          generalize 2 ^ (8 - (k + 1)) = M at *
          generalize numB (((padB X).drop (8 * i + (k + 1))).take (8 - (k + 1))) = y at *
          repeat (first | simp (disch := first | omega | assumption) only [↓reduceIte, go_sem, g3, g5, g6, g7] | with_reducible refine Gst.now ?_ | with_reducible refine vawp_draw mixed (by kernel_rfl) ?_ | with_reducible first | refine lwV_out ?_ | refine lwV_out0 ?_ | refine And.intro (by omega) ?_ | fail)
          refine ⟨k, by omega, by omega, ?_⟩
          repeat (first | simp (disch := first | omega | assumption) only [↓reduceIte, go_sem, g3, g4, g5] | with_reducible refine Gst.now ?_ | with_reducible refine vawp_draw mixed (by kernel_rfl) ?_ | with_reducible first | refine lwV_out ?_ | refine lwV_out0 ?_ | refine And.intro (by omega) ?_ | fail)
          rw [e7, Nat.add_comm]
        · have hk : k = 0 := by omega
          subst hk
          have e9 : numB (((padB X).drop (8 * i + 0)).take (8 - 0)) = byteB X i := byteB_pad hi
          rw [e9] at g6
          have hpt : ((packB X).take i).length = i := by rw [List.length_take, packB_len]; omega
          have hpq := packB_len X
          repeat (first | simp (disch := first | omega | assumption) only [↓reduceIte, go_sem, g4, g6] | with_reducible refine Gst.now ?_ | with_reducible refine vawp_draw mixed (by kernel_rfl) ?_ | with_reducible first | refine lwV_out ?_ | refine lwV_out0 ?_ | refine And.intro (by omega) ?_ | fail)
          refine vBuildS_i bs25 ?_ ?_ ?_ ?_ ?_
          rfl
          rfl
          rfl
          rfl
          repeat (first | simp (disch := first | omega | assumption) only [↓reduceIte, go_sem] | with_reducible refine Gst.now ?_ | with_reducible refine vawp_draw mixed (by kernel_rfl) ?_ | with_reducible first | refine lwV_out ?_ | refine lwV_out0 ?_ | refine And.intro (by omega) ?_ | fail)
          apply vApp_own_isl ap25 (by simp only [go_sem])
          case hv => first | (simp [hpq]; done) | (simp [hpq]; omega)
          case hj => repeat (first | exact hset_at _ _ _ | assumption | refine (hset_ne _ _ (by first | omega | assumption)).trans ?_ | refine (hdel_ne _ (by first | omega | assumption)).trans ?_ | fail)
          case hl => first | (simp [hpq]; done) | (simp [hpq]; omega)
          case h1 => first | omega | (simp [hpq]; omega) | (simp [hpq]; done)
          case h2 => first | omega | (simp [hpq]; omega) | (simp [hpq]; done)
          intro j' hj'
          simp (disch := first | omega | assumption) only [go_sem, hset_none, hdel_none] at hj'
          try simp (disch := first | omega | assumption) only [hset_none, hdel_none] at hj'
          repeat (first | simp (disch := first | omega | assumption) only [↓reduceIte, go_sem, g5] | with_reducible refine Gst.now ?_ | with_reducible refine vawp_draw mixed (by kernel_rfl) ?_ | with_reducible first | refine lwV_out ?_ | refine lwV_out0 ?_ | refine And.intro (by omega) ?_ | fail)
          refine ⟨k0 - 1, by omega, i + 1, by omega, ?_⟩
          repeat (first | simp (disch := first | omega | assumption) only [↓reduceIte, go_sem, g3] | with_reducible refine Gst.now ?_ | with_reducible refine vawp_draw mixed (by kernel_rfl) ?_ | with_reducible first | refine lwV_out ?_ | refine lwV_out0 ?_ | refine And.intro (by omega) ?_ | fail)
          refine ⟨j', hj', rfl, ?_⟩
          rw [packB_take hi, List.map_append]; rfl
    · repeat (first | simp (disch := first | omega | assumption) only [↓reduceIte, go_sem, f4] | with_reducible refine Gst.now ?_ | with_reducible refine vawp_draw mixed (by kernel_rfl) ?_ | with_reducible first | refine lwV_out ?_ | refine lwV_out0 ?_ | refine And.intro (by omega) ?_ | fail)
      refine hq _ _ ?_
      repeat (first | simp (disch := first | omega | assumption) only [↓reduceIte, go_sem] | with_reducible refine Gst.now ?_ | with_reducible refine vawp_draw mixed (by kernel_rfl) ?_ | with_reducible first | refine lwV_out ?_ | refine lwV_out0 ?_ | refine And.intro (by omega) ?_ | fail)
      have hi : i = (X.length + 7) / 8 := by omega
      have := hK j1 hj1
      rw [packB_len, ← hi] at this
      rw [List.take_of_length_le (by rw [packB_len]; omega)]
      exact this
end
end Go.Proofs.Ytnnemehejldchaa.VBits5
