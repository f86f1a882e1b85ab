/- what is asked for, over the machine of values. -/
import Derived.Test.YtnnemehejldchaaProg
import Derived.Test.YtnnemehejldchaaAbV9
import Derived.Test.YtnnemehejldchaaAbFacts
import Derived.Test.YtnnemehejldchaaAbBitsM
import Derived.Test.YtnnemehejldchaaAbVBits
import Derived.Test.YtnnemehejldchaaAbVBits2
import Derived.Test.YtnnemehejldchaaAbVBits3
import Derived.Test.YtnnemehejldchaaAbVBits4
import Derived.Test.YtnnemehejldchaaAbVBits5
import Derived.Test.YtnnemehejldchaaAbVLaw
import Derived.KernelRfl
import Derived.Laws.BitsAllLaws
set_option linter.unusedVariables false
set_option linter.unusedSimpArgs false
set_option maxRecDepth 100000
set_option maxHeartbeats 4000000
namespace Go.Proofs.Ytnnemehejldchaa.VRead
open Go.RowKit Go.Proofs.AbM Go.Proofs.Ytnnemehejldchaa.Facts Go.Proofs.Ytnnemehejldchaa.BitsM Go.Proofs.Ytnnemehejldchaa.VBits Go.Proofs.Ytnnemehejldchaa.VBits2 Go.Proofs.Ytnnemehejldchaa.VBits3 Go.Proofs.Ytnnemehejldchaa.VBits4 Go.Proofs.Ytnnemehejldchaa.VBits5 Go.Proofs.Ytnnemehejldchaa.VLaw
attribute [local go_sem] vawp_skip_eq vawp_seq_eq vawp_region_eq vawp_cond_ite vawp_block_eq vawp_exit_eq vawp_ret_eq thenV_ret thenV_exit thenV_normal inBlockV_normal inBlockV_ret inBlockV_exit resKV_nil resKV_tmp resKV_cell oneV_one oneV_nil oneV_more initV_nil initV_cons updV_at evv_tmp evv_func evv_global evv_int evv_bool evv_str evv_snil evv_pnil evv_agg ofV3_int ofV3_bool ofV3_str ofV3_snil ofV3_pnil vok_tmp vok_func vok_global vok_int vok_bool vok_str vok_snil vok_pnil vok_agg cloV3_int cloV3_bool cloV3_str cloV3_snil cloV3_pnil voks_nil voks_cons scV_int scV_bool scV_str isBlV_b isBV_t isBV_f lwV_none lwV_sc lwV_agg lwV_tup lwV_isl lwV_own lwV_op lwV_ip lwV_fn lwV_junk vops_nil vops_n vops_s gsN_eq vop dstOk_some dstOk_none pkV_b blkV_set eRead_f eRead_t vLoad_op vLoad_ip vStore_op cells_sc cells_isl cells_own cells_op cells_ip cells_fn cells_agg parts_sc parts_isl parts_own parts_op parts_ip parts_fn parts_agg one_sc one_isl one_own one_op one_ip one_fn vField_op vField_ip ePart_f ePart_t vFieldV_agg vIx_isl vIx_own vIx_op vIx_ip vIxV_agg vIxV_str vLen_str vLen_isl vLen_own vLen_agg bndE_none bndE_int vSlice_isl vSlice_str vBin_add vBin_sub vBin_mul vBin_quo vBin_rem vBin_and vBin_or vBin_xor vBin_andNot vBin_eql vBin_neq vBin_lss vBin_leq vBin_gtr vBin_geq vBin_shr_i8 vBin_shl_i8 vBin_shr_i16 vBin_shl_i16 vBin_shr_i32 vBin_shl_i32 vBin_shr_i64 vBin_shl_i64 vBin_shr_u8 vBin_shl_u8 vBin_shr_u16 vBin_shl_u16 vBin_shr_u32 vBin_shl_u32 vBin_shr_u64 vBin_shl_u64 vBin_seq vBin_sne vBin_isln vBin_opn vBin_ipn ex_sc ex_sc2 ex_sc3 ex_tup calleeV wSc_pb wSc_pi wSc_not wSc_neg wSc_com wSc_min2 wSc_max2 vfold_nil vfold_one vfold_cons vfill_nil vfill_e eFill_s vBuild vBox vAlloc setV_map setV_zs setV_zn setV_s hset_hset eConv_ss vConv_e iv_eq ivI_eq ex_get ex_getI set_iv set_ivI okNil isNilV isSlV hdel_at hset_at List.map_toArray List.map_cons List.map_nil List.nil_append List.cons_append List.append_nil List.toList_toArray List.getElem?_toArray List.getElem?_cons_zero List.getElem?_cons_succ List.set_cons_zero List.set_cons_succ List.set_set List.length_cons List.length_nil List.length_set List.length_map List.all_cons List.all_nil List.drop_zero List.drop_succ_cons List.take_succ_cons List.take_zero List.flatMap_cons Bool.and_eq_true true_and and_true if_true if_false ite_true ite_false forall_eq' forall_eq exists_eq_left exists_eq_left' exists_eq' Value.bool.injEq Value.int.injEq Value.string.injEq Value.pointer.injEq Option.some.injEq AV.sc.injEq AV.op.injEq AV.ip.injEq AV.own.injEq AV.agg.injEq VB.cells.injEq VB.iter.injEq Prod.mk.injEq decide_eq_true_eq decide_eq_false_iff_not Nat.reduceEqDiff Nat.reduceLT Nat.reduceLeDiff Nat.reduceSub Nat.reduceBEq reduceIte Int.reduceLE Int.reduceLT Int.reduceToNat Int.reduceNeg Int.reduceEq Int.reduceNe Int.cast_ofNat_Int Nat.reduceMul Nat.reduceAdd Nat.reduceDiv Nat.reduceMod Nat.reducePow Int.reduceSub Int.reduceAdd Int.reduceMul Int.reducePow Option.isSome_some Option.isSome_none Option.bind_some Option.map_some Option.map_none Option.toList_some Option.toList_none true_or or_true or_false false_or Bool.not_true Bool.not_false Bool.not_eq_true Bool.false_eq_true Bool.not_not false_implies true_implies implies_true Nat.zero_add Nat.add_zero Nat.mul_one Bool.not_eq_true' Bool.true_eq_false Bool.and_true Bool.true_and Bool.and_false Bool.false_and Bool.or_true Bool.true_or Bool.or_false Bool.false_or Option.isNone_some Option.isNone_none Int.reduceBEq Int.reduceBNe beq_self_eq_true bne_self_eq_false beq_iff_eq not_false_eq_true not_true_eq_false Decidable.not_not bne_iff_ne ne_eq Int.toNat_natCast gt_lt ge_le c_add c_mul c_sub c_addn c_nadd c_muln c_nmul c_subn c_nsub c_divn c_modn c_div c_mod c_tdivn c_tmodn c_tdiv c_tmod c_pow c_nn c_beq c_beqn c_bne c_bnen wr64 wr32 wru64 wru32 wru16 wru8 c_if c_lt c_le c_eq c_ltn c_len c_nlt c_nle c_eqn m_drop m_take Nat.add_sub_cancel_left Nat.add_sub_cancel Int.reduceTMod Int.reduceTDiv Int.reduceMod Int.reduceDiv isC_some hset_ne hdel_ne hdel_hset hdel_hset_ne blkV_nset blkV_ndel hset_hdel
attribute [local go_sem high] vops_pk vops_mv vops_as vops_smv
attribute [local go_sem] ag3 sz3 zc3 ik3 ag4 sz4 zc4 ag5 sz5 zc5 ik5 ag9 sz9 zc9 iq9 ag22 sz22 el22 zc22 is22 ag25 sz25 el25 zc25 is25 ag27 sz27 zc27 bo27 ag28 sz28 zc28 ik28 ag30 sz30 zc30 bo30 ag32 sz32 zc32 pt32 ag49 sz49 zc49 pt49 ag54 sz54 zc54 bo54 of27_0 fd27_0 of27_1 fd27_1 of30_0 fd30_0 of30_1 fd30_1 of30_2 fd30_2 of30_3 fd30_3 of54_0 fd54_0 of54_1 fd54_1 eqb neb
attribute [local go_sem] opC RdB
section
variable {n : Nat} {h : VH} {K : AV → VH → Prop}
theorem reads_v {l l2 : Nat} {nl nl2 : Bool} {bs : List Nat} {ops : List OpV} (hl : l = bs.length) (hl2 : l2 = ops.length) (hbl : bs.length ≤ 140737488355328) (hb : ∀ b ∈ bs, b < 256) (hnl : nl = true → bs = []) (hbo : ops.length < 140737488355328) (ho : ∀ o ∈ ops, OkOp o) : VC Try.prog GL (n + 5) 5 [.isl nl l (bs.map (iv .u8)), .isl nl2 l2 (ops.flatMap opC)] (fun _ => none) (fun v _ => v = (.sc (.bool (true)))) := by
  refine VC_go Try.func5 rfl (by decide) Try.ntmps5 Try.results5 rfl fun Q hq hn => ?_
  subst hl hl2
  have hfl := flat_len opC_len ops
  repeat (first | simp (disch := first | omega | assumption) only [↓reduceIte, go_sem] | with_reducible refine Gst.now ?_ | with_reducible refine vawp_draw mixed (by kernel_rfl) ?_ | with_reducible first | refine lwV_out ?_ | refine lwV_out0 ?_ | refine And.intro (by omega) ?_ | fail)
  with_reducible refine call_ok ?_
  refine alive_v fun h0 => ?_
  repeat (first | simp (disch := first | omega | assumption) only [↓reduceIte, go_sem] | with_reducible refine Gst.now ?_ | with_reducible refine vawp_draw mixed (by kernel_rfl) ?_ | with_reducible first | refine lwV_out ?_ | refine lwV_out0 ?_ | refine And.intro (by omega) ?_ | fail)
  by_cases hbig : bs.length ≤ 100 ∧ ops.length ≤ 60
  · obtain ⟨hb100, ho60⟩ := hbig
    have c1 : ¬ 100 < bs.length := by omega
    have c2 : ¬ 60 < ops.length := by omega
    repeat (first | simp (disch := first | omega | assumption) only [↓reduceIte, go_sem, c1, c2] | with_reducible refine Gst.now ?_ | with_reducible refine vawp_draw mixed (by kernel_rfl) ?_ | with_reducible first | refine lwV_out ?_ | refine lwV_out0 ?_ | refine And.intro (by omega) ?_ | fail)
    with_reducible refine call_ok ?_
    refine bread_v rfl fun r hr => ?_
    have hbol := bitsOf_len bs
    have hbob := bitsOf_bits bs
    repeat (first | simp (disch := first | omega | assumption) only [↓reduceIte, go_sem] | with_reducible refine Gst.now ?_ | with_reducible refine vawp_draw mixed (by kernel_rfl) ?_ | with_reducible first | refine lwV_out ?_ | refine lwV_out0 ?_ | refine And.intro (by omega) ?_ | fail)
    with_reducible refine call_ok ?_
    refine rbits_v rfl (by omega) hb fun jb hjb => .iso hjb ?_
    repeat (first | simp (disch := first | omega | assumption) only [↓reduceIte, go_sem] | with_reducible refine Gst.now ?_ | with_reducible refine vawp_draw mixed (by kernel_rfl) ?_ | with_reducible first | refine lwV_out ?_ | refine lwV_out0 ?_ | refine And.intro (by omega) ?_ | fail)
    refine vawp_loop (k := ops.length) (fun k ρ h1 => ∃ i a : Nat, k + i = ops.length ∧ a ≤ 8 * bs.length ∧ ρ 0 = .isl nl bs.length (bs.map (iv .u8)) ∧ ρ 5 = .op r 0 ∧ ρ 6 = .isl false (bitsOf bs).length ((bitsOf bs).map (iv .u8)) ∧ ρ 7 = (.sc (.int .i64 (a))) ∧ ρ 35 = .isl nl2 ops.length (ops.flatMap opC) ∧ ρ 36 = (.sc (.int .i64 (ops.length))) ∧ ρ 37 = (.sc (.int .i64 (i))) ∧ h1 = hset h0 r (.cells 54 false (RdB nl bs a))) ?_ ?_
    · refine ⟨0, 0, by omega, by omega, ?_⟩
      repeat (first | simp (disch := first | omega | assumption) only [↓reduceIte, go_sem] | with_reducible refine Gst.now ?_ | with_reducible refine vawp_draw mixed (by kernel_rfl) ?_ | with_reducible first | refine lwV_out ?_ | refine lwV_out0 ?_ | refine And.intro (by omega) ?_ | fail)
    · rintro k ρ h1 ⟨i, a, hki, ha, g0, g5, g6, g7, g35, g36, g37, rfl⟩
      repeat (first | simp (disch := first | omega | assumption) only [↓reduceIte, go_sem, g35, g36, g37] | with_reducible refine Gst.now ?_ | with_reducible refine vawp_draw mixed (by kernel_rfl) ?_ | with_reducible first | refine lwV_out ?_ | refine lwV_out0 ?_ | refine And.intro (by omega) ?_ | fail)
      split
      · have hi : i < ops.length := by omega
        have hel := flat_get opC_len default ops i hi
        have hom : ops.getD i default ∈ ops := by rw [List.getD_eq_getElem?_getD, List.getElem?_eq_getElem hi]; exact List.getElem_mem hi
        generalize ops.getD i default = o at *
        obtain ⟨o1, o2, o3, o4⟩ := ho o hom
        repeat (first | simp (disch := first | omega | assumption) only [↓reduceIte, go_sem, g35, g37, hel] | with_reducible refine Gst.now ?_ | with_reducible refine vawp_draw mixed (by kernel_rfl) ?_ | with_reducible first | refine lwV_out ?_ | refine lwV_out0 ?_ | refine And.intro (by omega) ?_ | fail)
        intro q hq2
        have hqr : q ≠ r := by rintro rfl; rw [hset_at] at hq2; cases hq2
        have hq3 : h0 q = none := by rw [hset_ne _ _ hqr] at hq2; exact hq2
        repeat (first | simp (disch := first | omega | assumption) only [↓reduceIte, go_sem] | with_reducible refine vawp_draw mixed (by kernel_rfl) ?_ | with_reducible first | refine lwV_out ?_ | refine lwV_out0 ?_ | refine And.intro (by omega) ?_ | fail)
        refine .now ?_
        have hrr : ∀ {X : VH} {b : VB}, blkV (hset (hset X r (.cells 54 false (RdB nl bs a))) q b) r = some (54, RdB nl bs a) := blkV_iff.2 ((hset_ne _ _ hqr.symm).trans (hset_at _ _ _))
        refine vawp_midG (fun ρ hh => ∃ a' : Nat, a' ≤ 8 * bs.length ∧ ρ 0 = .isl nl bs.length (bs.map (iv .u8)) ∧ ρ 5 = .op r 0 ∧ ρ 6 = .isl false (bitsOf bs).length ((bitsOf bs).map (iv .u8)) ∧ ρ 7 = (.sc (.int .i64 (a'))) ∧ ρ 35 = .isl nl2 ops.length (ops.flatMap opC) ∧ ρ 36 = (.sc (.int .i64 (ops.length))) ∧ ρ 37 = (.sc (.int .i64 (i))) ∧ hdel hh q = hset h0 r (.cells 54 false (RdB nl bs a'))) (fun K hk => ?_) fun ρ' hh ⟨a', ha', f0, f5, f6, f7, f35, f36, f37, fh⟩ => ?_
        · have hN := hs32_le o.n
          have hmx : max 0 (min o.n 32) = ((hs32 o.n : Nat) : Int) := by unfold hs32; omega
          have hmt : (if o.n < 0 then 0 else o.n) = ((o.n.toNat : Nat) : Int) := by split <;> omega
          repeat (first | simp (disch := first | omega | assumption) only [↓reduceIte, go_sem] | with_reducible refine Gst.nowV ?_ | with_reducible refine vawp_draw mixed (by kernel_rfl) ?_ | with_reducible first | refine lwV_out ?_ | refine lwV_out0 ?_ | refine And.intro (by omega) ?_ | fail)
          by_cases e0 : o.kind = 0
          · repeat (first | simp (disch := first | omega | assumption) only [↓reduceIte, go_sem, g5, e0] | with_reducible refine Gst.nowV ?_ | with_reducible refine vawp_draw mixed (by kernel_rfl) ?_ | with_reducible first | refine lwV_out ?_ | refine lwV_out0 ?_ | refine And.intro (by omega) ?_ | fail)
            by_cases hfit : a + hs32 o.n ≤ 8 * bs.length
            · with_reducible refine call_ok ?_
              refine get_v hrr hb ha (by omega) (fun hh => absurd hh (by omega)) fun _ => ?_
              repeat (first | simp (disch := first | omega | assumption) only [↓reduceIte, go_sem, g6, g7] | with_reducible refine Gst.nowV ?_ | with_reducible refine vawp_draw mixed (by kernel_rfl) ?_ | with_reducible first | refine lwV_out ?_ | refine lwV_out0 ?_ | refine And.intro (by omega) ?_ | fail)
              with_reducible refine call_ok ?_
              refine rget_v rfl (by omega) hbob (by omega) (fun hh => absurd hh (by omega)) fun _ => ?_
              repeat (first | simp (disch := first | omega | assumption) only [↓reduceIte, go_sem] | with_reducible refine Gst.nowV ?_ | with_reducible refine vawp_draw mixed (by kernel_rfl) ?_ | with_reducible first | refine lwV_out ?_ | refine lwV_out0 ?_ | refine And.intro (by omega) ?_ | fail)
              with_reducible refine call_ok ?_
              refine refHeld_v (by omega) ?_
              rw [hmx]
              repeat (first | simp (disch := first | omega | assumption) only [↓reduceIte, go_sem, g7] | with_reducible refine Gst.nowV ?_ | with_reducible refine vawp_draw mixed (by kernel_rfl) ?_ | with_reducible first | refine lwV_out ?_ | refine lwV_out0 ?_ | refine And.intro (by omega) ?_ | fail)
              refine hk _ _ ⟨a + hs32 o.n, by omega, ?_⟩
              repeat (first | simp (disch := first | omega | assumption) only [↓reduceIte, go_sem, g0, g5, g6, g35, g36, g37] | with_reducible refine Gst.now ?_ | with_reducible refine vawp_draw mixed (by kernel_rfl) ?_ | with_reducible first | refine lwV_out ?_ | refine lwV_out0 ?_ | refine And.intro (by omega) ?_ | fail)
            · with_reducible refine call_ok ?_
              refine get_v hrr hb ha (by omega) (fun _ => ?_) (fun hh => absurd hh (by omega))
              repeat (first | simp (disch := first | omega | assumption) only [↓reduceIte, go_sem, g6, g7] | with_reducible refine Gst.nowV ?_ | with_reducible refine vawp_draw mixed (by kernel_rfl) ?_ | with_reducible first | refine lwV_out ?_ | refine lwV_out0 ?_ | refine And.intro (by omega) ?_ | fail)
              with_reducible refine call_ok ?_
              refine rget_v rfl (by omega) hbob (by omega) (fun _ => ?_) (fun hh => absurd hh (by omega))
              repeat (first | simp (disch := first | omega | assumption) only [↓reduceIte, go_sem] | with_reducible refine Gst.nowV ?_ | with_reducible refine vawp_draw mixed (by kernel_rfl) ?_ | with_reducible first | refine lwV_out ?_ | refine lwV_out0 ?_ | refine And.intro (by omega) ?_ | fail)
              refine hk _ _ ⟨a, by omega, ?_⟩
              repeat (first | simp (disch := first | omega | assumption) only [↓reduceIte, go_sem, g0, g5, g6, g7, g35, g36, g37] | with_reducible refine Gst.now ?_ | with_reducible refine vawp_draw mixed (by kernel_rfl) ?_ | with_reducible first | refine lwV_out ?_ | refine lwV_out0 ?_ | refine And.intro (by omega) ?_ | fail)
          · by_cases e1 : o.kind = 1
            · repeat (first | simp (disch := first | omega | assumption) only [↓reduceIte, go_sem, g5, e0, e1] | with_reducible refine Gst.nowV ?_ | with_reducible refine vawp_draw mixed (by kernel_rfl) ?_ | with_reducible first | refine lwV_out ?_ | refine lwV_out0 ?_ | refine And.intro (by omega) ?_ | fail)
              by_cases hfit : a + hs32 o.n ≤ 8 * bs.length
              · with_reducible refine call_ok ?_
                refine get_v hrr hb ha (by omega) (fun hh => absurd hh (by omega)) fun _ => ?_
                repeat (first | simp (disch := first | omega | assumption) only [↓reduceIte, go_sem, g6, g7] | with_reducible refine Gst.nowV ?_ | with_reducible refine vawp_draw mixed (by kernel_rfl) ?_ | with_reducible first | refine lwV_out ?_ | refine lwV_out0 ?_ | refine And.intro (by omega) ?_ | fail)
                with_reducible refine call_ok ?_
                refine rget_v rfl (by omega) hbob (by omega) (fun hh => absurd hh (by omega)) fun _ => ?_
                repeat (first | simp (disch := first | omega | assumption) only [↓reduceIte, go_sem] | with_reducible refine Gst.nowV ?_ | with_reducible refine vawp_draw mixed (by kernel_rfl) ?_ | with_reducible first | refine lwV_out ?_ | refine lwV_out0 ?_ | refine And.intro (by omega) ?_ | fail)
                with_reducible refine call_ok ?_
                refine refHeld_v (by omega) ?_
                rw [hmx]
                repeat (first | simp (disch := first | omega | assumption) only [↓reduceIte, go_sem, g7] | with_reducible refine Gst.nowV ?_ | with_reducible refine vawp_draw mixed (by kernel_rfl) ?_ | with_reducible first | refine lwV_out ?_ | refine lwV_out0 ?_ | refine And.intro (by omega) ?_ | fail)
                refine hk _ _ ⟨a + hs32 o.n, by omega, ?_⟩
                repeat (first | simp (disch := first | omega | assumption) only [↓reduceIte, go_sem, g0, g5, g6, g35, g36, g37] | with_reducible refine Gst.now ?_ | with_reducible refine vawp_draw mixed (by kernel_rfl) ?_ | with_reducible first | refine lwV_out ?_ | refine lwV_out0 ?_ | refine And.intro (by omega) ?_ | fail)
              · with_reducible refine call_ok ?_
                refine get_v hrr hb ha (by omega) (fun _ => ?_) (fun hh => absurd hh (by omega))
                repeat (first | simp (disch := first | omega | assumption) only [↓reduceIte, go_sem, g6, g7] | with_reducible refine Gst.nowV ?_ | with_reducible refine vawp_draw mixed (by kernel_rfl) ?_ | with_reducible first | refine lwV_out ?_ | refine lwV_out0 ?_ | refine And.intro (by omega) ?_ | fail)
                with_reducible refine call_ok ?_
                refine rget_v rfl (by omega) hbob (by omega) (fun _ => ?_) (fun hh => absurd hh (by omega))
                repeat (first | simp (disch := first | omega | assumption) only [↓reduceIte, go_sem] | with_reducible refine Gst.nowV ?_ | with_reducible refine vawp_draw mixed (by kernel_rfl) ?_ | with_reducible first | refine lwV_out ?_ | refine lwV_out0 ?_ | refine And.intro (by omega) ?_ | fail)
                refine hk _ _ ⟨a, by omega, ?_⟩
                repeat (first | simp (disch := first | omega | assumption) only [↓reduceIte, go_sem, g0, g5, g6, g7, g35, g36, g37] | with_reducible refine Gst.now ?_ | with_reducible refine vawp_draw mixed (by kernel_rfl) ?_ | with_reducible first | refine lwV_out ?_ | refine lwV_out0 ?_ | refine And.intro (by omega) ?_ | fail)
            · by_cases e2 : o.kind = 2
              · have h1 : hs32 1 = 1 := rfl
                repeat (first | simp (disch := first | omega | assumption) only [↓reduceIte, go_sem, g5, e0, e1, e2] | with_reducible refine Gst.nowV ?_ | with_reducible refine vawp_draw mixed (by kernel_rfl) ?_ | with_reducible first | refine lwV_out ?_ | refine lwV_out0 ?_ | refine And.intro (by omega) ?_ | fail)
                by_cases hfit : a < 8 * bs.length
                · have f1 : numB (((bitsOf bs).drop a).take (hs32 1)) = (bitsOf bs).getD a 0 := by
                    rw [h1, show (1 : Nat) = 0 + 1 from rfl, numB_drop (by omega), List.take_zero]; simp [numB]
                  with_reducible refine call_ok ?_
                  refine rbit_v hrr hb ha (by omega) (fun hh => absurd hh (by omega)) fun _ => ?_
                  repeat (first | simp (disch := first | omega | assumption) only [↓reduceIte, go_sem, g6, g7] | with_reducible refine Gst.nowV ?_ | with_reducible refine vawp_draw mixed (by kernel_rfl) ?_ | with_reducible first | refine lwV_out ?_ | refine lwV_out0 ?_ | refine And.intro (by omega) ?_ | fail)
                  with_reducible refine call_ok ?_
                  refine rget_v rfl (by omega) hbob (by omega) (fun hh => absurd hh (by omega)) fun _ => ?_
                  rw [f1]
                  repeat (first | simp (disch := first | omega | assumption) only [↓reduceIte, go_sem, g7] | with_reducible refine Gst.nowV ?_ | with_reducible refine vawp_draw mixed (by kernel_rfl) ?_ | with_reducible first | refine lwV_out ?_ | refine lwV_out0 ?_ | refine And.intro (by omega) ?_ | fail)
                  refine hk _ _ ⟨a + 1, by omega, ?_⟩
                  repeat (first | simp (disch := first | omega | assumption) only [↓reduceIte, go_sem, g0, g5, g6, g35, g36, g37] | with_reducible refine Gst.now ?_ | with_reducible refine vawp_draw mixed (by kernel_rfl) ?_ | with_reducible first | refine lwV_out ?_ | refine lwV_out0 ?_ | refine And.intro (by omega) ?_ | fail)
                · with_reducible refine call_ok ?_
                  refine rbit_v hrr hb ha (by omega) (fun _ => ?_) (fun hh => absurd hh (by omega))
                  repeat (first | simp (disch := first | omega | assumption) only [↓reduceIte, go_sem, g6, g7] | with_reducible refine Gst.nowV ?_ | with_reducible refine vawp_draw mixed (by kernel_rfl) ?_ | with_reducible first | refine lwV_out ?_ | refine lwV_out0 ?_ | refine And.intro (by omega) ?_ | fail)
                  with_reducible refine call_ok ?_
                  refine rget_v rfl (by omega) hbob (by omega) (fun _ => ?_) (fun hh => absurd hh (by omega))
                  repeat (first | simp (disch := first | omega | assumption) only [↓reduceIte, go_sem, g7] | with_reducible refine Gst.nowV ?_ | with_reducible refine vawp_draw mixed (by kernel_rfl) ?_ | with_reducible first | refine lwV_out ?_ | refine lwV_out0 ?_ | refine And.intro (by omega) ?_ | fail)
                  refine hk _ _ ⟨a, by omega, ?_⟩
                  repeat (first | simp (disch := first | omega | assumption) only [↓reduceIte, go_sem, g0, g5, g6, g7, g35, g36, g37] | with_reducible refine Gst.now ?_ | with_reducible refine vawp_draw mixed (by kernel_rfl) ?_ | with_reducible first | refine lwV_out ?_ | refine lwV_out0 ?_ | refine And.intro (by omega) ?_ | fail)
              · by_cases e3 : o.kind = 3
                · repeat (first | simp (disch := first | omega | assumption) only [↓reduceIte, go_sem, g5, e0, e1, e2, e3] | with_reducible refine Gst.nowV ?_ | with_reducible refine vawp_draw mixed (by kernel_rfl) ?_ | with_reducible first | refine lwV_out ?_ | refine lwV_out0 ?_ | refine And.intro (by omega) ?_ | fail)
                  with_reducible refine call_ok ?_
                  refine ralign_v hrr (by omega) ?_
                  repeat (first | simp (disch := first | omega | assumption) only [↓reduceIte, go_sem, g7] | with_reducible refine Gst.nowV ?_ | with_reducible refine vawp_draw mixed (by kernel_rfl) ?_ | with_reducible first | refine lwV_out ?_ | refine lwV_out0 ?_ | refine And.intro (by omega) ?_ | fail)
                  refine hk _ _ ⟨(a + 7) / 8 * 8, by omega, ?_⟩
                  repeat (first | simp (disch := first | omega | assumption) only [↓reduceIte, go_sem, g0, g5, g6, g35, g36, g37] | with_reducible refine Gst.now ?_ | with_reducible refine vawp_draw mixed (by kernel_rfl) ?_ | with_reducible first | refine lwV_out ?_ | refine lwV_out0 ?_ | refine And.intro (by omega) ?_ | fail)
                · by_cases e4 : o.kind = 4
                  · repeat (first | simp (disch := first | omega | assumption) only [↓reduceIte, go_sem, g5, e0, e1, e2, e3, e4] | with_reducible refine Gst.nowV ?_ | with_reducible refine vawp_draw mixed (by kernel_rfl) ?_ | with_reducible first | refine lwV_out ?_ | refine lwV_out0 ?_ | refine And.intro (by omega) ?_ | fail)
                    have e8 : (a + 7) / 8 * 8 / 8 = (a + 7) / 8 := by omega
                    by_cases hfit : (a + 7) / 8 + o.n.toNat ≤ bs.length
                    · have hqb : (a + 7) / 8 ≤ bs.length := by omega
                      have c8 : decide (o.n.toNat ≤ bs.length - (a + 7) / 8) = true := decide_eq_true (by omega)
                      with_reducible refine call_ok ?_
                      refine rbytes_v hrr ha (by omega) hnl (fun hh => absurd hh (by omega)) fun _ => ?_
                      repeat (first | simp (disch := first | omega | assumption) only [↓reduceIte, go_sem, g0, g7, hmt, e8, c8] | with_reducible refine Gst.nowV ?_ | with_reducible refine vawp_draw mixed (by kernel_rfl) ?_ | with_reducible first | refine lwV_out ?_ | refine lwV_out0 ?_ | refine And.intro (by omega) ?_ | fail)
                      with_reducible refine call_ok ?_
                      refine same_v (by rw [List.length_take, List.length_drop]; omega) (by rw [List.length_take, List.length_drop]; omega) (by rw [List.length_take, List.length_drop]; omega) (by rw [List.length_take, List.length_drop]; omega) ?_
                      rw [decide_eq_true rfl]
                      repeat (first | simp (disch := first | omega | assumption) only [↓reduceIte, go_sem] | with_reducible refine Gst.nowV ?_ | with_reducible refine vawp_draw mixed (by kernel_rfl) ?_ | with_reducible first | refine lwV_out ?_ | refine lwV_out0 ?_ | refine And.intro (by omega) ?_ | fail)
                      refine hk _ _ ⟨(a + 7) / 8 * 8 + 8 * o.n.toNat, by omega, ?_⟩
                      repeat (first | simp (disch := first | omega | assumption) only [↓reduceIte, go_sem, g0, g5, g6, g35, g36, g37] | with_reducible refine Gst.now ?_ | with_reducible refine vawp_draw mixed (by kernel_rfl) ?_ | with_reducible first | refine lwV_out ?_ | refine lwV_out0 ?_ | refine And.intro (by omega) ?_ | fail)
                    · have hqb : (a + 7) / 8 ≤ bs.length := by omega
                      have c8 : decide (o.n.toNat ≤ bs.length - (a + 7) / 8) = false := decide_eq_false (by omega)
                      with_reducible refine call_ok ?_
                      refine rbytes_v hrr ha (by omega) hnl (fun _ => ?_) (fun hh => absurd hh (by omega))
                      repeat (first | simp (disch := first | omega | assumption) only [↓reduceIte, go_sem, g0, g7, hmt, e8, c8] | with_reducible refine Gst.nowV ?_ | with_reducible refine vawp_draw mixed (by kernel_rfl) ?_ | with_reducible first | refine lwV_out ?_ | refine lwV_out0 ?_ | refine And.intro (by omega) ?_ | fail)
                      refine hk _ _ ⟨(a + 7) / 8 * 8, by omega, ?_⟩
                      repeat (first | simp (disch := first | omega | assumption) only [↓reduceIte, go_sem, g0, g5, g6, g35, g36, g37] | with_reducible refine Gst.now ?_ | with_reducible refine vawp_draw mixed (by kernel_rfl) ?_ | with_reducible first | refine lwV_out ?_ | refine lwV_out0 ?_ | refine And.intro (by omega) ?_ | fail)
                  · repeat (first | simp (disch := first | omega | assumption) only [↓reduceIte, go_sem, e0, e1, e2, e3, e4] | with_reducible refine Gst.nowV ?_ | with_reducible refine vawp_draw mixed (by kernel_rfl) ?_ | with_reducible first | refine lwV_out ?_ | refine lwV_out0 ?_ | refine And.intro (by omega) ?_ | fail)
                    refine hk _ _ ⟨a, ha, ?_⟩
                    repeat (first | simp (disch := first | omega | assumption) only [↓reduceIte, go_sem, g0, g5, g6, g7, g35, g36, g37] | with_reducible refine Gst.now ?_ | with_reducible refine vawp_draw mixed (by kernel_rfl) ?_ | with_reducible first | refine lwV_out ?_ | refine lwV_out0 ?_ | refine And.intro (by omega) ?_ | fail)
        · refine .drop q ?_
          rw [fh]
          repeat (first | simp (disch := first | omega | assumption) only [↓reduceIte, go_sem, f5, f7] | with_reducible refine Gst.now ?_ | with_reducible refine vawp_draw mixed (by kernel_rfl) ?_ | with_reducible first | refine lwV_out ?_ | refine lwV_out0 ?_ | refine And.intro (by omega) ?_ | fail)
          with_reducible refine call_ok ?_
          refine rat_v (blkV_iff.2 (hset_at _ _ _)) ?_
          repeat (first | simp (disch := first | omega | assumption) only [↓reduceIte, go_sem, f7, f37] | with_reducible refine Gst.now ?_ | with_reducible refine vawp_draw mixed (by kernel_rfl) ?_ | with_reducible first | refine lwV_out ?_ | refine lwV_out0 ?_ | refine And.intro (by omega) ?_ | fail)
          refine ⟨k - 1, by omega, i + 1, a', by omega, ha', ?_⟩
          repeat (first | simp (disch := first | omega | assumption) only [↓reduceIte, go_sem, f0, f5, f6, f35, f36] | with_reducible refine Gst.now ?_ | with_reducible refine vawp_draw mixed (by kernel_rfl) ?_ | with_reducible first | refine lwV_out ?_ | refine lwV_out0 ?_ | refine And.intro (by omega) ?_ | fail)
      · repeat (first | simp (disch := first | omega | assumption) only [↓reduceIte, go_sem] | with_reducible refine Gst.now ?_ | with_reducible refine vawp_draw mixed (by kernel_rfl) ?_ | with_reducible first | refine lwV_out ?_ | refine lwV_out0 ?_ | refine And.intro (by omega) ?_ | fail)
        refine hq _ _ ?_
        repeat (first | simp (disch := first | omega | assumption) only [↓reduceIte, go_sem] | with_reducible refine Gst.now ?_ | with_reducible refine vawp_draw mixed (by kernel_rfl) ?_ | with_reducible first | refine lwV_out ?_ | refine lwV_out0 ?_ | refine And.intro (by omega) ?_ | fail)
        exact .now rfl
  · have hbig' : 100 < bs.length ∨ ¬ 100 < bs.length ∧ 60 < ops.length := by omega
    rcases hbig' with c1 | ⟨c1, c2⟩
    · repeat (first | simp (disch := first | omega | assumption) only [↓reduceIte, go_sem, c1] | with_reducible refine Gst.now ?_ | with_reducible refine vawp_draw mixed (by kernel_rfl) ?_ | with_reducible first | refine lwV_out ?_ | refine lwV_out0 ?_ | refine And.intro (by omega) ?_ | fail)
      refine hq _ _ ?_
      repeat (first | simp (disch := first | omega | assumption) only [↓reduceIte, go_sem] | with_reducible refine Gst.now ?_ | with_reducible refine vawp_draw mixed (by kernel_rfl) ?_ | with_reducible first | refine lwV_out ?_ | refine lwV_out0 ?_ | refine And.intro (by omega) ?_ | fail)
      exact .now rfl
    · repeat (first | simp (disch := first | omega | assumption) only [↓reduceIte, go_sem, c1, c2] | with_reducible refine Gst.now ?_ | with_reducible refine vawp_draw mixed (by kernel_rfl) ?_ | with_reducible first | refine lwV_out ?_ | refine lwV_out0 ?_ | refine And.intro (by omega) ?_ | fail)
      refine hq _ _ ?_
      repeat (first | simp (disch := first | omega | assumption) only [↓reduceIte, go_sem] | with_reducible refine Gst.now ?_ | with_reducible refine vawp_draw mixed (by kernel_rfl) ?_ | with_reducible first | refine lwV_out ?_ | refine lwV_out0 ?_ | refine And.intro (by omega) ?_ | fail)
      exact .now rfl
end
end Go.Proofs.Ytnnemehejldchaa.VRead
