/- of each row of what is put all bytes are as said, over the machine of values. -/
import Derived.Test.YtnnemehejldchaaProg
import Derived.Test.YtnnemehejldchaaAbV9
import Derived.Test.YtnnemehejldchaaAbFacts
import Derived.Test.YtnnemehejldchaaAbBitsM
import Derived.Test.YtnnemehejldchaaAbVBits
import Derived.Test.YtnnemehejldchaaAbVBits2
import Derived.Test.YtnnemehejldchaaAbVBits3
import Derived.Test.YtnnemehejldchaaAbVBits4
import Derived.Test.YtnnemehejldchaaAbVBits5
import Derived.Test.YtnnemehejldchaaAbVLaw
import Derived.KernelRfl
import Derived.Laws.BitsAllLaws
set_option linter.unusedVariables false
set_option linter.unusedSimpArgs false
set_option maxRecDepth 100000
set_option maxHeartbeats 4000000
namespace Go.Proofs.Ytnnemehejldchaa.VPlay
open Go.RowKit Go.Proofs.AbM Go.Proofs.Ytnnemehejldchaa.Facts Go.Proofs.Ytnnemehejldchaa.BitsM Go.Proofs.Ytnnemehejldchaa.VBits Go.Proofs.Ytnnemehejldchaa.VBits2 Go.Proofs.Ytnnemehejldchaa.VBits3 Go.Proofs.Ytnnemehejldchaa.VBits4 Go.Proofs.Ytnnemehejldchaa.VBits5 Go.Proofs.Ytnnemehejldchaa.VLaw
attribute [local go_sem] vawp_skip_eq vawp_seq_eq vawp_region_eq vawp_cond_ite vawp_block_eq vawp_exit_eq vawp_ret_eq thenV_ret thenV_exit thenV_normal inBlockV_normal inBlockV_ret inBlockV_exit resKV_nil resKV_tmp resKV_cell oneV_one oneV_nil oneV_more initV_nil initV_cons updV_at evv_tmp evv_func evv_global evv_int evv_bool evv_str evv_snil evv_pnil evv_agg ofV3_int ofV3_bool ofV3_str ofV3_snil ofV3_pnil vok_tmp vok_func vok_global vok_int vok_bool vok_str vok_snil vok_pnil vok_agg cloV3_int cloV3_bool cloV3_str cloV3_snil cloV3_pnil voks_nil voks_cons scV_int scV_bool scV_str isBlV_b isBV_t isBV_f lwV_none lwV_sc lwV_agg lwV_tup lwV_isl lwV_own lwV_op lwV_ip lwV_fn lwV_junk vops_nil vops_n vops_s gsN_eq vop dstOk_some dstOk_none pkV_b blkV_set eRead_f eRead_t vLoad_op vLoad_ip vStore_op cells_sc cells_isl cells_own cells_op cells_ip cells_fn cells_agg parts_sc parts_isl parts_own parts_op parts_ip parts_fn parts_agg one_sc one_isl one_own one_op one_ip one_fn vField_op vField_ip ePart_f ePart_t vFieldV_agg vIx_isl vIx_own vIx_op vIx_ip vIxV_agg vIxV_str vLen_str vLen_isl vLen_own vLen_agg bndE_none bndE_int vSlice_isl vSlice_str vBin_add vBin_sub vBin_mul vBin_quo vBin_rem vBin_and vBin_or vBin_xor vBin_andNot vBin_eql vBin_neq vBin_lss vBin_leq vBin_gtr vBin_geq vBin_shr_i8 vBin_shl_i8 vBin_shr_i16 vBin_shl_i16 vBin_shr_i32 vBin_shl_i32 vBin_shr_i64 vBin_shl_i64 vBin_shr_u8 vBin_shl_u8 vBin_shr_u16 vBin_shl_u16 vBin_shr_u32 vBin_shl_u32 vBin_shr_u64 vBin_shl_u64 vBin_seq vBin_sne vBin_isln vBin_opn vBin_ipn ex_sc ex_sc2 ex_sc3 ex_tup calleeV wSc_pb wSc_pi wSc_not wSc_neg wSc_com wSc_min2 wSc_max2 vfold_nil vfold_one vfold_cons vfill_nil vfill_e eFill_s vBuild vBox vAlloc setV_map setV_zs setV_zn setV_s hset_hset eConv_ss vConv_e iv_eq ivI_eq ex_get ex_getI set_iv set_ivI okNil isNilV isSlV hdel_at hset_at List.map_toArray List.map_cons List.map_nil List.nil_append List.cons_append List.append_nil List.toList_toArray List.getElem?_toArray List.getElem_toArray List.getElem_cons_zero List.getElem_cons_succ List.getElem?_cons_zero List.getElem?_cons_succ List.set_cons_zero List.set_cons_succ List.set_set List.length_cons List.length_nil List.length_set List.length_map List.all_cons List.all_nil List.drop_zero List.drop_succ_cons List.take_succ_cons List.take_zero List.flatMap_cons Bool.and_eq_true true_and and_true if_true if_false ite_true ite_false forall_eq' forall_eq exists_eq_left exists_eq_left' exists_eq' Value.bool.injEq Value.int.injEq Value.string.injEq Value.pointer.injEq Option.some.injEq AV.sc.injEq AV.op.injEq AV.ip.injEq AV.own.injEq AV.agg.injEq VB.cells.injEq VB.iter.injEq Prod.mk.injEq decide_eq_true_eq decide_eq_false_iff_not Nat.reduceEqDiff Nat.reduceLT Nat.reduceLeDiff Nat.reduceSub Nat.reduceBEq reduceIte Int.reduceLE Int.reduceLT Int.reduceToNat Int.reduceNeg Int.reduceEq Int.reduceNe Int.cast_ofNat_Int Nat.reduceMul Nat.reduceAdd Nat.reduceDiv Nat.reduceMod Nat.reducePow Int.reduceSub Int.reduceAdd Int.reduceMul Int.reducePow Option.isSome_some Option.isSome_none Option.bind_some Option.map_some Option.map_none Option.toList_some Option.toList_none true_or or_true or_false false_or Bool.not_true Bool.not_false Bool.not_eq_true Bool.false_eq_true Bool.not_not false_implies true_implies implies_true Nat.zero_add Nat.add_zero Nat.mul_one Bool.not_eq_true' Bool.true_eq_false Bool.and_true Bool.true_and Bool.and_false Bool.false_and Bool.or_true Bool.true_or Bool.or_false Bool.false_or Option.isNone_some Option.isNone_none Int.reduceBEq Int.reduceBNe beq_self_eq_true bne_self_eq_false beq_iff_eq not_false_eq_true not_true_eq_false Decidable.not_not bne_iff_ne ne_eq Int.toNat_natCast gt_lt ge_le c_add c_mul c_sub c_addn c_nadd c_muln c_nmul c_subn c_nsub c_divn c_modn c_div c_mod c_tdivn c_tmodn c_tdiv c_tmod c_pow c_nn c_beq c_beqn c_bne c_bnen wr64 wr32 wru64 wru32 wru16 wru8 c_if c_lt c_le c_eq c_ltn c_len c_nlt c_nle c_eqn m_drop m_take Nat.add_sub_cancel_left Nat.add_sub_cancel Int.reduceTMod Int.reduceTDiv Int.reduceMod Int.reduceDiv isC_some hset_ne hdel_ne hdel_hset hdel_hset_ne blkV_nset blkV_ndel hset_hdel
attribute [local go_sem high] vops_pk vops_mv vops_as vops_smv
attribute [local go_sem] ag3 sz3 zc3 ik3 ag4 sz4 zc4 ag5 sz5 zc5 ik5 ag9 sz9 zc9 iq9 ag22 sz22 el22 zc22 is22 ag25 sz25 el25 zc25 is25 ag27 sz27 zc27 bo27 ag28 sz28 zc28 ik28 ag30 sz30 zc30 bo30 ag32 sz32 zc32 pt32 ag49 sz49 zc49 pt49 ag54 sz54 zc54 bo54 of27_0 fd27_0 of27_1 fd27_1 of30_0 fd30_0 of30_1 fd30_1 of30_2 fd30_2 of30_3 fd30_3 of54_0 fd54_0 of54_1 fd54_1 eqb neb
attribute [local go_sem] opC
section
variable {n : Nat} {h : VH} {K : AV → VH → Prop}
/-- With a step more. -/
def playO (X : List Nat) (o : OpV) : List Nat := if o.kind = 0 ∨ o.kind = 1 then X ++ lowBits o.v (hs32 o.n) else if o.kind = 2 then X ++ codeTo o.v (hs32 o.n) (hs32 o.n) else if o.kind = 3 then padB X else if o.kind = 4 then padB X ++ bitsOf o.b else X
def playN (ops : List OpV) : List Nat := ops.foldl playO []
theorem playO_bits {X : List Nat} (h : IsBits X) (o : OpV) : IsBits (playO X o) := by
  unfold playO
  split
  · exact IsBits.append h (lowBits_bits _ _)
  · split
    · exact IsBits.append h (codeTo_bits _ _ _)
    · split
      · exact padB_bits h
      · split
        · exact IsBits.append (padB_bits h) (bitsOf_bits _)
        · exact h
theorem playO_len {X : List Nat} {o : OpV} (ho : o.b.length ≤ 20) : (playO X o).length ≤ X.length + 168 := by
  have := hs32_le o.n
  unfold playO
  split
  · rw [List.length_append, lowBits_len]; omega
  · split
    · rw [List.length_append, codeTo_len]; omega
    · split
      · rw [padB_len]; omega
      · split
        · rw [List.length_append, padB_len, bitsOf_len]; omega
        · omega
theorem playN_bits : ∀ (ops : List OpV) (X : List Nat), IsBits X → IsBits (ops.foldl playO X)
  | [], X, h => h
  | o :: ops, X, h => playN_bits ops _ (playO_bits h o)
theorem playN_len : ∀ (ops : List OpV) (X : List Nat), (∀ o ∈ ops, o.b.length ≤ 20) → (ops.foldl playO X).length ≤ X.length + 168 * ops.length
  | [], X, _ => by simp
  | o :: ops, X, h => by
    have h1 := playN_len ops (playO X o) fun x hx => h x (by simp [hx])
    have h2 := playO_len (X := X) (h o (by simp))
    rw [List.foldl_cons, List.length_cons]
    omega
theorem playN_take {ops : List OpV} {i : Nat} (hi : i < ops.length) : playN (ops.take (i + 1)) = playO (playN (ops.take i)) (ops.getD i default) := by
  unfold playN
  rw [List.take_succ_eq_append_getElem hi, List.foldl_append, List.getD_eq_getElem?_getD, List.getElem?_eq_getElem hi]; rfl
theorem play_v {l : Nat} {nl : Bool} {ops : List OpV} (hl : l = ops.length) (hb : ops.length < 140737488355328) (ho : ∀ o ∈ ops, OkOp o) : VC Try.prog GL (n + 5) 4 [.isl nl l (ops.flatMap opC)] (fun _ => none) (fun v _ => v = (.sc (.bool (true)))) := by
  refine VC_go Try.func4 rfl (by decide) Try.ntmps4 Try.results4 rfl fun Q hq hn => ?_
  subst hl
  have hfl := flat_len opC_len ops
  repeat (first | simp (disch := first | omega | assumption) only [↓reduceIte, go_sem] | with_reducible refine Gst.now ?_ | with_reducible refine vawp_draw mixed (by kernel_rfl) ?_ | with_reducible first | refine lwV_out ?_ | refine lwV_out0 ?_ | refine And.intro (by omega) ?_ | fail)
  with_reducible refine call_ok ?_
  refine alive_v fun h0 => ?_
  repeat (first | simp (disch := first | omega | assumption) only [↓reduceIte, go_sem] | with_reducible refine Gst.now ?_ | with_reducible refine vawp_draw mixed (by kernel_rfl) ?_ | with_reducible first | refine lwV_out ?_ | refine lwV_out0 ?_ | refine And.intro (by omega) ?_ | fail)
  with_reducible refine call_ok ?_
  refine few_v rfl hb ho ?_
  cases hf : fewB ops with
  | false =>
    repeat (first | simp (disch := first | omega | assumption) only [↓reduceIte, go_sem] | with_reducible refine Gst.now ?_ | with_reducible refine vawp_draw mixed (by kernel_rfl) ?_ | with_reducible first | refine lwV_out ?_ | refine lwV_out0 ?_ | refine And.intro (by omega) ?_ | fail)
    refine hq _ _ ?_
    repeat (first | simp (disch := first | omega | assumption) only [↓reduceIte, go_sem] | with_reducible refine Gst.now ?_ | with_reducible refine vawp_draw mixed (by kernel_rfl) ?_ | with_reducible first | refine lwV_out ?_ | refine lwV_out0 ?_ | refine And.intro (by omega) ?_ | fail)
    exact .now rfl
  | true =>
    have hfew : ops.length ≤ 40 := by
      unfold fewB at hf
      rw [Bool.and_eq_true] at hf
      simpa using hf.2
    have h20 : ∀ o ∈ ops, o.b.length ≤ 20 := by
      unfold fewB at hf
      rw [Bool.and_eq_true, List.all_eq_true] at hf
      exact fun o ho => by simpa using hf.1 o ho
    repeat (first | simp (disch := first | omega | assumption) only [↓reduceIte, go_sem] | with_reducible refine Gst.now ?_ | with_reducible refine vawp_draw mixed (by kernel_rfl) ?_ | with_reducible first | refine lwV_out ?_ | refine lwV_out0 ?_ | refine And.intro (by omega) ?_ | fail)
    intro j hj
    repeat (first | simp (disch := first | omega | assumption) only [↓reduceIte, go_sem] | with_reducible refine Gst.now ?_ | with_reducible refine vawp_draw mixed (by kernel_rfl) ?_ | with_reducible first | refine lwV_out ?_ | refine lwV_out0 ?_ | refine And.intro (by omega) ?_ | fail)
    refine vBuildS_i bs25 ?_ ?_ ?_ ?_ ?_
    rfl
    rfl
    rfl
    rfl
    repeat (first | simp (disch := first | omega | assumption) only [↓reduceIte, go_sem] | with_reducible refine Gst.now ?_ | with_reducible refine vawp_draw mixed (by kernel_rfl) ?_ | with_reducible first | refine lwV_out ?_ | refine lwV_out0 ?_ | refine And.intro (by omega) ?_ | fail)
    refine vawp_loop (k := ops.length) (fun k ρ h1 => ∃ (i : Nat) (nlx : Bool), k + i = ops.length ∧ ρ 3 = .op j 0 ∧ ρ 4 = .isl nlx (playN (ops.take i)).length ((playN (ops.take i)).map (iv .u8)) ∧ ρ 13 = .isl nl ops.length (ops.flatMap opC) ∧ ρ 14 = (.sc (.int .i64 (ops.length))) ∧ ρ 15 = (.sc (.int .i64 (i))) ∧ WrH h0 j (playN (ops.take i)) h1) ?_ ?_
    · refine ⟨0, false, by omega, ?_⟩
      repeat (first | simp (disch := first | omega | assumption) only [↓reduceIte, go_sem] | with_reducible refine Gst.now ?_ | with_reducible refine vawp_draw mixed (by kernel_rfl) ?_ | with_reducible first | refine lwV_out ?_ | refine lwV_out0 ?_ | refine And.intro (by omega) ?_ | fail)
      exact ⟨rfl, hj, .inl ⟨rfl, rfl⟩⟩
    · rintro k ρ h1 ⟨i, nlx, hki, g3, g4, g13, g14, g15, hW⟩
      repeat (first | simp (disch := first | omega | assumption) only [↓reduceIte, go_sem, g3, g13, g14, g15] | with_reducible refine Gst.now ?_ | with_reducible refine vawp_draw mixed (by kernel_rfl) ?_ | with_reducible first | refine lwV_out ?_ | refine lwV_out0 ?_ | refine And.intro (by omega) ?_ | fail)
      split
      · have hi : i < ops.length := by omega
        have hel := flat_get opC_len default ops i hi
        have hom : ops.getD i default ∈ ops := by rw [List.getD_eq_getElem?_getD, List.getElem?_eq_getElem hi]; exact List.getElem_mem hi
        have htk := playN_take hi
        have hXb : IsBits (playN (ops.take i)) := playN_bits _ _ (fun x hx => by simp at hx)
        have hXl := playN_len (ops.take i) [] fun o ho => h20 o (List.mem_of_mem_take ho)
        rw [List.length_take, List.length_nil] at hXl
        generalize ops.getD i default = o at *
        have o20 := h20 o hom
        obtain ⟨o1, o2, o3, o4⟩ := ho o hom
        have hX2l := playO_len (X := playN (ops.take i)) o20
        have hX2b := playO_bits hXb o
        change (playN (ops.take i)).length ≤ _ at hXl
        generalize playN (ops.take i) = X at *
        repeat (first | simp (disch := first | omega | assumption) only [↓reduceIte, go_sem, g13, g15, hel] | with_reducible refine Gst.now ?_ | with_reducible refine vawp_draw mixed (by kernel_rfl) ?_ | with_reducible first | refine lwV_out ?_ | refine lwV_out0 ?_ | refine And.intro (by omega) ?_ | fail)
        intro q hq
        have hq0 := hW.none hq
        have hWq := (hW.frame (b := .cells 30 false (opC o)) hq).1
        have hN := hs32_le o.n
        repeat (first | simp (disch := first | omega | assumption) only [↓reduceIte, go_sem] | with_reducible refine vawp_draw mixed (by kernel_rfl) ?_ | with_reducible first | refine lwV_out ?_ | refine lwV_out0 ?_ | refine And.intro (by omega) ?_ | fail)
        refine .now ?_
        refine vawp_midG (fun ρ hh => ∃ nlx : Bool, ρ 3 = .op j 0 ∧ ρ 4 = .isl nlx (playO X o).length ((playO X o).map (iv .u8)) ∧ ρ 13 = .isl nl ops.length (ops.flatMap opC) ∧ ρ 14 = (.sc (.int .i64 (ops.length))) ∧ ρ 15 = (.sc (.int .i64 (i))) ∧ WrH h0 j (playO X o) (hdel hh q)) (fun K hk => ?_) fun ρ' hh ⟨nlx, f3, f4, f13, f14, f15, fh⟩ => ?_
        · repeat (first | simp (disch := first | omega | assumption) only [↓reduceIte, go_sem] | with_reducible refine Gst.nowV ?_ | with_reducible refine vawp_draw mixed (by kernel_rfl) ?_ | with_reducible first | refine lwV_out ?_ | refine lwV_out0 ?_ | refine And.intro (by omega) ?_ | fail)
          by_cases e0 : o.kind = 0
          · have p0 := eq_true e0
            repeat (first | simp (disch := first | omega | assumption) only [↓reduceIte, go_sem, g3, p0] | with_reducible refine Gst.nowV ?_ | with_reducible refine vawp_draw mixed (by kernel_rfl) ?_ | with_reducible first | refine lwV_out ?_ | refine lwV_out0 ?_ | refine And.intro (by omega) ?_ | fail)
            with_reducible refine call_ok ?_
            refine put_v hWq hXb (by omega) o1 fun h3 hW3 => ?_
            have hb3 := blkV_iff.2 (hW3.below (hset_at _ _ _))
            repeat (first | simp (disch := first | omega | assumption) only [↓reduceIte, go_sem, g4, hb3] | with_reducible refine Gst.nowV ?_ | with_reducible refine vawp_draw mixed (by kernel_rfl) ?_ | with_reducible first | refine lwV_out ?_ | refine lwV_out0 ?_ | refine And.intro (by omega) ?_ | fail)
            with_reducible refine call_ok ?_
            refine rput_v rfl (by omega) o1 fun jx hjx => .iso hjx ?_
            repeat (first | simp (disch := first | omega | assumption) only [↓reduceIte, go_sem] | with_reducible refine Gst.nowV ?_ | with_reducible refine vawp_draw mixed (by kernel_rfl) ?_ | with_reducible first | refine lwV_out ?_ | refine lwV_out0 ?_ | refine And.intro (by omega) ?_ | fail)
            have hW4 := hW3.del (hset_at _ _ _)
            rw [hdel_hset hq0] at hW4
            have hpo : playO X o = X ++ lowBits o.v (hs32 o.n) := by unfold playO; rw [if_pos (by omega)]
            refine hk _ _ ⟨false, ?_⟩
            rw [hpo]
            repeat (first | simp (disch := first | omega | assumption) only [↓reduceIte, go_sem, g3, g13, g14, g15] | with_reducible refine Gst.now ?_ | with_reducible refine vawp_draw mixed (by kernel_rfl) ?_ | with_reducible first | refine lwV_out ?_ | refine lwV_out0 ?_ | refine And.intro (by omega) ?_ | fail)
            exact ⟨by rw [List.length_append, lowBits_len], hW4⟩
          · by_cases e1 : o.kind = 1
            · have p1 := eq_true e1
              repeat (first | simp (disch := first | omega | assumption) only [↓reduceIte, go_sem, g3, e0, p1] | with_reducible refine Gst.nowV ?_ | with_reducible refine vawp_draw mixed (by kernel_rfl) ?_ | with_reducible first | refine lwV_out ?_ | refine lwV_out0 ?_ | refine And.intro (by omega) ?_ | fail)
              with_reducible refine call_ok ?_
              refine put_v hWq hXb (by omega) o1 fun h3 hW3 => ?_
              have hb3 := blkV_iff.2 (hW3.below (hset_at _ _ _))
              repeat (first | simp (disch := first | omega | assumption) only [↓reduceIte, go_sem, g4, hb3] | with_reducible refine Gst.nowV ?_ | with_reducible refine vawp_draw mixed (by kernel_rfl) ?_ | with_reducible first | refine lwV_out ?_ | refine lwV_out0 ?_ | refine And.intro (by omega) ?_ | fail)
              with_reducible refine call_ok ?_
              refine rput_v rfl (by omega) o1 fun jx hjx => .iso hjx ?_
              repeat (first | simp (disch := first | omega | assumption) only [↓reduceIte, go_sem] | with_reducible refine Gst.nowV ?_ | with_reducible refine vawp_draw mixed (by kernel_rfl) ?_ | with_reducible first | refine lwV_out ?_ | refine lwV_out0 ?_ | refine And.intro (by omega) ?_ | fail)
              have hW4 := hW3.del (hset_at _ _ _)
              rw [hdel_hset hq0] at hW4
              have hpo : playO X o = X ++ lowBits o.v (hs32 o.n) := by unfold playO; rw [if_pos (by omega)]
              refine hk _ _ ⟨false, ?_⟩
              rw [hpo]
              repeat (first | simp (disch := first | omega | assumption) only [↓reduceIte, go_sem, g3, g13, g14, g15] | with_reducible refine Gst.now ?_ | with_reducible refine vawp_draw mixed (by kernel_rfl) ?_ | with_reducible first | refine lwV_out ?_ | refine lwV_out0 ?_ | refine And.intro (by omega) ?_ | fail)
              exact ⟨by rw [List.length_append, lowBits_len], hW4⟩
            · by_cases e2 : o.kind = 2
              · have p2 := eq_true e2
                repeat (first | simp (disch := first | omega | assumption) only [↓reduceIte, go_sem, g3, e0, e1, p2] | with_reducible refine Gst.nowV ?_ | with_reducible refine vawp_draw mixed (by kernel_rfl) ?_ | with_reducible first | refine lwV_out ?_ | refine lwV_out0 ?_ | refine And.intro (by omega) ?_ | fail)
                with_reducible refine call_ok ?_
                refine code_v hWq hXb (by omega) o1 fun h3 hW3 => ?_
                have hb3 := blkV_iff.2 (hW3.below (hset_at _ _ _))
                repeat (first | simp (disch := first | omega | assumption) only [↓reduceIte, go_sem, g4, hb3] | with_reducible refine Gst.nowV ?_ | with_reducible refine vawp_draw mixed (by kernel_rfl) ?_ | with_reducible first | refine lwV_out ?_ | refine lwV_out0 ?_ | refine And.intro (by omega) ?_ | fail)
                with_reducible refine call_ok ?_
                refine rcode_v rfl (by omega) o1 fun jx hjx => .iso hjx ?_
                repeat (first | simp (disch := first | omega | assumption) only [↓reduceIte, go_sem] | with_reducible refine Gst.nowV ?_ | with_reducible refine vawp_draw mixed (by kernel_rfl) ?_ | with_reducible first | refine lwV_out ?_ | refine lwV_out0 ?_ | refine And.intro (by omega) ?_ | fail)
                have hW4 := hW3.del (hset_at _ _ _)
                rw [hdel_hset hq0] at hW4
                have hpo : playO X o = X ++ codeTo o.v (hs32 o.n) (hs32 o.n) := by unfold playO; rw [if_neg (by omega), if_pos e2]
                refine hk _ _ ⟨false, ?_⟩
                rw [hpo]
                repeat (first | simp (disch := first | omega | assumption) only [↓reduceIte, go_sem, g3, g13, g14, g15] | with_reducible refine Gst.now ?_ | with_reducible refine vawp_draw mixed (by kernel_rfl) ?_ | with_reducible first | refine lwV_out ?_ | refine lwV_out0 ?_ | refine And.intro (by omega) ?_ | fail)
                exact ⟨by rw [List.length_append, codeTo_len], hW4⟩
              · by_cases e3 : o.kind = 3
                · have p3 := eq_true e3
                  repeat (first | simp (disch := first | omega | assumption) only [↓reduceIte, go_sem, g3, e0, e1, e2, p3] | with_reducible refine Gst.nowV ?_ | with_reducible refine vawp_draw mixed (by kernel_rfl) ?_ | with_reducible first | refine lwV_out ?_ | refine lwV_out0 ?_ | refine And.intro (by omega) ?_ | fail)
                  with_reducible refine call_ok ?_
                  refine align_v hWq (by omega) fun h3 hW3 => ?_
                  repeat (first | simp (disch := first | omega | assumption) only [↓reduceIte, go_sem, g4] | with_reducible refine Gst.nowV ?_ | with_reducible refine vawp_draw mixed (by kernel_rfl) ?_ | with_reducible first | refine lwV_out ?_ | refine lwV_out0 ?_ | refine And.intro (by omega) ?_ | fail)
                  with_reducible refine call_ok ?_
                  refine ralign0_v rfl (by omega) fun jx hjx => .iso hjx ?_
                  repeat (first | simp (disch := first | omega | assumption) only [↓reduceIte, go_sem] | with_reducible refine Gst.nowV ?_ | with_reducible refine vawp_draw mixed (by kernel_rfl) ?_ | with_reducible first | refine lwV_out ?_ | refine lwV_out0 ?_ | refine And.intro (by omega) ?_ | fail)
                  have hW4 := hW3.del (hset_at _ _ _)
                  rw [hdel_hset hq0] at hW4
                  have hpo : playO X o = padB X := by unfold playO; rw [if_neg (by omega), if_neg e2, if_pos e3]
                  refine hk _ _ ⟨false, ?_⟩
                  rw [hpo]
                  repeat (first | simp (disch := first | omega | assumption) only [↓reduceIte, go_sem, g3, g13, g14, g15] | with_reducible refine Gst.now ?_ | with_reducible refine vawp_draw mixed (by kernel_rfl) ?_ | with_reducible first | refine lwV_out ?_ | refine lwV_out0 ?_ | refine And.intro (by omega) ?_ | fail)
                  exact hW4
                · by_cases e4 : o.kind = 4
                  · have p4 := eq_true e4
                    have hpo : playO X o = padB X ++ bitsOf o.b := by unfold playO; rw [if_neg (by omega), if_neg e2, if_neg e3, if_pos e4]
                    repeat (first | simp (disch := first | omega | assumption) only [↓reduceIte, go_sem, g3, e0, e1, e2, e3, p4] | with_reducible refine Gst.nowV ?_ | with_reducible refine vawp_draw mixed (by kernel_rfl) ?_ | with_reducible first | refine lwV_out ?_ | refine lwV_out0 ?_ | refine And.intro (by omega) ?_ | fail)
                    with_reducible refine call_ok ?_
                    refine wbytes_v hWq (by omega) o2 (by omega) rfl fun h3 hW3 => ?_
                    have hb3 := blkV_iff.2 (hW3.below (hset_at _ _ _))
                    have hW4 := hW3.del (hset_at _ _ _)
                    rw [hdel_hset hq0] at hW4
                    repeat (first | simp (disch := first | omega | assumption) only [↓reduceIte, go_sem] | with_reducible first | refine lwV_out ?_ | refine lwV_out0 ?_ | refine And.intro (by omega) ?_ | fail)
                    have fin : (padB X).length + (bitsOf o.b).length = (padB X ++ bitsOf o.b).length := by rw [List.length_append]
                    have hbnd : (padB X).length + (bitsOf o.b).length ≤ 100000000 := by rw [padB_len, bitsOf_len]; omega
                    refine .nowV ?_
                    refine vawp_any 7 mixed ?_ ?_
                    · rfl
                    apply vany_two 0 2
                    case hr => kernel_rfl
                    case ho => rfl
                    case ho' => rfl
                    · repeat (first | simp (disch := first | omega | assumption) only [↓reduceIte, go_sem, g4] | with_reducible first | refine lwV_out ?_ | refine lwV_out0 ?_ | refine And.intro (by omega) ?_ | fail)
                      repeat (first | simp (disch := first | omega | assumption) only [↓reduceIte, go_sem] | with_reducible first | refine lwV_out ?_ | refine lwV_out0 ?_ | refine And.intro (by omega) ?_ | fail)
                      apply vany_two 1 2
                      case hr => kernel_rfl
                      case ho => rfl
                      case ho' => rfl
                      · repeat (first | simp (disch := first | omega | assumption) only [↓reduceIte, go_sem, g4] | with_reducible first | refine lwV_out ?_ | refine lwV_out0 ?_ | refine And.intro (by omega) ?_ | fail)
                        with_reducible refine call_ok ?_
                        refine ralign0_v rfl (by omega) fun jx hjx => .now ?_
                        have hqx : q ≠ jx := new_ne hb3 hjx
                        repeat (first | simp (disch := first | omega | assumption) only [↓reduceIte, go_sem] | with_reducible first | refine lwV_out ?_ | refine lwV_out0 ?_ | refine And.intro (by omega) ?_ | fail)
                        apply vany_one 2
                        case hr => kernel_rfl
                        case ho => rfl
                        repeat (first | simp (disch := first | omega | assumption) only [↓reduceIte, go_sem, hb3] | with_reducible first | refine lwV_out ?_ | refine lwV_out0 ?_ | refine And.intro (by omega) ?_ | fail)
                        repeat (first | simp (disch := first | omega | assumption) only [↓reduceIte, go_sem] | with_reducible first | refine lwV_out ?_ | refine lwV_out0 ?_ | refine And.intro (by omega) ?_ | fail)
                        apply vany_one 3
                        case hr => kernel_rfl
                        case ho => rfl
                        repeat (first | simp (disch := first | omega | assumption) only [↓reduceIte, go_sem, hb3] | with_reducible first | refine lwV_out ?_ | refine lwV_out0 ?_ | refine And.intro (by omega) ?_ | fail)
                        repeat (first | simp (disch := first | omega | assumption) only [↓reduceIte, go_sem] | with_reducible first | refine lwV_out ?_ | refine lwV_out0 ?_ | refine And.intro (by omega) ?_ | fail)
                        apply vany_one 4
                        case hr => kernel_rfl
                        case ho => rfl
                        repeat (first | simp (disch := first | omega | assumption) only [↓reduceIte, go_sem] | with_reducible first | refine lwV_out ?_ | refine lwV_out0 ?_ | refine And.intro (by omega) ?_ | fail)
                        with_reducible refine call_ok ?_
                        refine rbits_v rfl (by omega) o2 fun jb hjb => .iso hjb ?_
                        repeat (first | simp (disch := first | omega | assumption) only [↓reduceIte, go_sem] | with_reducible first | refine lwV_out ?_ | refine lwV_out0 ?_ | refine And.intro (by omega) ?_ | fail)
                        apply vany_one 5
                        case hr => kernel_rfl
                        case ho => rfl
                        repeat (first | simp (disch := first | omega | assumption) only [↓reduceIte, go_sem] | with_reducible first | refine lwV_out ?_ | refine lwV_out0 ?_ | refine And.intro (by omega) ?_ | fail)
                        apply vApp_own_isl ap25 (by simp only [go_sem])
                        case hv => first | (simp []; done) | (simp []; omega)
                        case hj => repeat (first | exact hset_at _ _ _ | assumption | refine (hset_ne _ _ (by first | omega | assumption)).trans ?_ | refine (hdel_ne _ (by first | omega | assumption)).trans ?_ | fail)
                        case hl => first | (simp []; done) | (simp []; omega)
                        case h1 => first | omega | (simp []; omega) | (simp []; done)
                        case h2 => first | omega | (simp []; omega) | (simp []; done)
                        intro jy hjy
                        simp (disch := first | omega | assumption) only [go_sem, hset_none, hdel_none] at hjy
                        try simp (disch := first | omega | assumption) only [hset_none, hdel_none] at hjy
                        repeat (first | simp (disch := first | omega | assumption) only [↓reduceIte, go_sem] | with_reducible first | refine lwV_out ?_ | refine lwV_out0 ?_ | refine And.intro (by omega) ?_ | fail)
                        apply vany_one 6
                        case hr => kernel_rfl
                        case ho => rfl
                        repeat (first | simp (disch := first | omega | assumption) only [↓reduceIte, go_sem] | with_reducible first | refine lwV_out ?_ | refine lwV_out0 ?_ | refine And.intro (by omega) ?_ | fail)
                        repeat (first | simp (disch := first | omega | assumption) only [↓reduceIte, go_sem] | with_reducible first | refine lwV_out ?_ | refine lwV_out0 ?_ | refine And.intro (by omega) ?_ | fail)
                        refine vany_end (by kernel_rfl) ?_
                        repeat (first | simp (disch := first | omega | assumption) only [↓reduceIte, go_sem] | with_reducible first | refine lwV_out ?_ | refine lwV_out0 ?_ | refine And.intro (by omega) ?_ | fail)
                        refine .frz1 4 jy (hset_at _ _ _) rfl ?_
                        refine hk _ _ ⟨false, ?_⟩
                        rw [hpo]
                        repeat (first | simp (disch := first | omega | assumption) only [↓reduceIte, go_sem, g3, g13, g14, g15] | with_reducible refine Gst.now ?_ | with_reducible refine vawp_draw mixed (by kernel_rfl) ?_ | with_reducible first | refine lwV_out ?_ | refine lwV_out0 ?_ | refine And.intro (by omega) ?_ | fail)
                        exact ⟨by rw [fin, List.map_append], hW4⟩
                      · repeat (first | simp (disch := first | omega | assumption) only [↓reduceIte, go_sem, hb3] | with_reducible first | refine lwV_out ?_ | refine lwV_out0 ?_ | refine And.intro (by omega) ?_ | fail)
                        repeat (first | simp (disch := first | omega | assumption) only [↓reduceIte, go_sem] | with_reducible first | refine lwV_out ?_ | refine lwV_out0 ?_ | refine And.intro (by omega) ?_ | fail)
                        apply vany_two 1 3
                        case hr => kernel_rfl
                        case ho => rfl
                        case ho' => rfl
                        · repeat (first | simp (disch := first | omega | assumption) only [↓reduceIte, go_sem, g4] | with_reducible first | refine lwV_out ?_ | refine lwV_out0 ?_ | refine And.intro (by omega) ?_ | fail)
                          with_reducible refine call_ok ?_
                          refine ralign0_v rfl (by omega) fun jx hjx => .now ?_
                          have hqx : q ≠ jx := new_ne hb3 hjx
                          repeat (first | simp (disch := first | omega | assumption) only [↓reduceIte, go_sem] | with_reducible first | refine lwV_out ?_ | refine lwV_out0 ?_ | refine And.intro (by omega) ?_ | fail)
                          apply vany_one 3
                          case hr => kernel_rfl
                          case ho => rfl
                          repeat (first | simp (disch := first | omega | assumption) only [↓reduceIte, go_sem, hb3] | with_reducible first | refine lwV_out ?_ | refine lwV_out0 ?_ | refine And.intro (by omega) ?_ | fail)
                          repeat (first | simp (disch := first | omega | assumption) only [↓reduceIte, go_sem] | with_reducible first | refine lwV_out ?_ | refine lwV_out0 ?_ | refine And.intro (by omega) ?_ | fail)
                          apply vany_one 4
                          case hr => kernel_rfl
                          case ho => rfl
                          repeat (first | simp (disch := first | omega | assumption) only [↓reduceIte, go_sem] | with_reducible first | refine lwV_out ?_ | refine lwV_out0 ?_ | refine And.intro (by omega) ?_ | fail)
                          with_reducible refine call_ok ?_
                          refine rbits_v rfl (by omega) o2 fun jb hjb => .iso hjb ?_
                          repeat (first | simp (disch := first | omega | assumption) only [↓reduceIte, go_sem] | with_reducible first | refine lwV_out ?_ | refine lwV_out0 ?_ | refine And.intro (by omega) ?_ | fail)
                          apply vany_one 5
                          case hr => kernel_rfl
                          case ho => rfl
                          repeat (first | simp (disch := first | omega | assumption) only [↓reduceIte, go_sem] | with_reducible first | refine lwV_out ?_ | refine lwV_out0 ?_ | refine And.intro (by omega) ?_ | fail)
                          apply vApp_own_isl ap25 (by simp only [go_sem])
                          case hv => first | (simp []; done) | (simp []; omega)
                          case hj => repeat (first | exact hset_at _ _ _ | assumption | refine (hset_ne _ _ (by first | omega | assumption)).trans ?_ | refine (hdel_ne _ (by first | omega | assumption)).trans ?_ | fail)
                          case hl => first | (simp []; done) | (simp []; omega)
                          case h1 => first | omega | (simp []; omega) | (simp []; done)
                          case h2 => first | omega | (simp []; omega) | (simp []; done)
                          intro jy hjy
                          simp (disch := first | omega | assumption) only [go_sem, hset_none, hdel_none] at hjy
                          try simp (disch := first | omega | assumption) only [hset_none, hdel_none] at hjy
                          repeat (first | simp (disch := first | omega | assumption) only [↓reduceIte, go_sem] | with_reducible first | refine lwV_out ?_ | refine lwV_out0 ?_ | refine And.intro (by omega) ?_ | fail)
                          apply vany_one 6
                          case hr => kernel_rfl
                          case ho => rfl
                          repeat (first | simp (disch := first | omega | assumption) only [↓reduceIte, go_sem] | with_reducible first | refine lwV_out ?_ | refine lwV_out0 ?_ | refine And.intro (by omega) ?_ | fail)
                          repeat (first | simp (disch := first | omega | assumption) only [↓reduceIte, go_sem] | with_reducible first | refine lwV_out ?_ | refine lwV_out0 ?_ | refine And.intro (by omega) ?_ | fail)
                          refine vany_end (by kernel_rfl) ?_
                          repeat (first | simp (disch := first | omega | assumption) only [↓reduceIte, go_sem] | with_reducible first | refine lwV_out ?_ | refine lwV_out0 ?_ | refine And.intro (by omega) ?_ | fail)
                          refine .frz1 4 jy (hset_at _ _ _) rfl ?_
                          refine hk _ _ ⟨false, ?_⟩
                          rw [hpo]
                          repeat (first | simp (disch := first | omega | assumption) only [↓reduceIte, go_sem, g3, g13, g14, g15] | with_reducible refine Gst.now ?_ | with_reducible refine vawp_draw mixed (by kernel_rfl) ?_ | with_reducible first | refine lwV_out ?_ | refine lwV_out0 ?_ | refine And.intro (by omega) ?_ | fail)
                          exact ⟨by rw [fin, List.map_append], hW4⟩
                        · repeat (first | simp (disch := first | omega | assumption) only [↓reduceIte, go_sem, hb3] | with_reducible first | refine lwV_out ?_ | refine lwV_out0 ?_ | refine And.intro (by omega) ?_ | fail)
                          repeat (first | simp (disch := first | omega | assumption) only [↓reduceIte, go_sem] | with_reducible first | refine lwV_out ?_ | refine lwV_out0 ?_ | refine And.intro (by omega) ?_ | fail)
                          apply vany_one 1
                          case hr => kernel_rfl
                          case ho => rfl
                          repeat (first | simp (disch := first | omega | assumption) only [↓reduceIte, go_sem, g4] | with_reducible first | refine lwV_out ?_ | refine lwV_out0 ?_ | refine And.intro (by omega) ?_ | fail)
                          with_reducible refine call_ok ?_
                          refine ralign0_v rfl (by omega) fun jx hjx => .now ?_
                          have hqx : q ≠ jx := new_ne hb3 hjx
                          repeat (first | simp (disch := first | omega | assumption) only [↓reduceIte, go_sem] | with_reducible first | refine lwV_out ?_ | refine lwV_out0 ?_ | refine And.intro (by omega) ?_ | fail)
                          apply vany_one 4
                          case hr => kernel_rfl
                          case ho => rfl
                          repeat (first | simp (disch := first | omega | assumption) only [↓reduceIte, go_sem] | with_reducible first | refine lwV_out ?_ | refine lwV_out0 ?_ | refine And.intro (by omega) ?_ | fail)
                          with_reducible refine call_ok ?_
                          refine rbits_v rfl (by omega) o2 fun jb hjb => .iso hjb ?_
                          repeat (first | simp (disch := first | omega | assumption) only [↓reduceIte, go_sem] | with_reducible first | refine lwV_out ?_ | refine lwV_out0 ?_ | refine And.intro (by omega) ?_ | fail)
                          apply vany_one 5
                          case hr => kernel_rfl
                          case ho => rfl
                          repeat (first | simp (disch := first | omega | assumption) only [↓reduceIte, go_sem] | with_reducible first | refine lwV_out ?_ | refine lwV_out0 ?_ | refine And.intro (by omega) ?_ | fail)
                          apply vApp_own_isl ap25 (by simp only [go_sem])
                          case hv => first | (simp []; done) | (simp []; omega)
                          case hj => repeat (first | exact hset_at _ _ _ | assumption | refine (hset_ne _ _ (by first | omega | assumption)).trans ?_ | refine (hdel_ne _ (by first | omega | assumption)).trans ?_ | fail)
                          case hl => first | (simp []; done) | (simp []; omega)
                          case h1 => first | omega | (simp []; omega) | (simp []; done)
                          case h2 => first | omega | (simp []; omega) | (simp []; done)
                          intro jy hjy
                          simp (disch := first | omega | assumption) only [go_sem, hset_none, hdel_none] at hjy
                          try simp (disch := first | omega | assumption) only [hset_none, hdel_none] at hjy
                          repeat (first | simp (disch := first | omega | assumption) only [↓reduceIte, go_sem] | with_reducible first | refine lwV_out ?_ | refine lwV_out0 ?_ | refine And.intro (by omega) ?_ | fail)
                          apply vany_one 6
                          case hr => kernel_rfl
                          case ho => rfl
                          repeat (first | simp (disch := first | omega | assumption) only [↓reduceIte, go_sem] | with_reducible first | refine lwV_out ?_ | refine lwV_out0 ?_ | refine And.intro (by omega) ?_ | fail)
                          repeat (first | simp (disch := first | omega | assumption) only [↓reduceIte, go_sem] | with_reducible first | refine lwV_out ?_ | refine lwV_out0 ?_ | refine And.intro (by omega) ?_ | fail)
                          refine vany_end (by kernel_rfl) ?_
                          repeat (first | simp (disch := first | omega | assumption) only [↓reduceIte, go_sem] | with_reducible first | refine lwV_out ?_ | refine lwV_out0 ?_ | refine And.intro (by omega) ?_ | fail)
                          refine .frz1 4 jy (hset_at _ _ _) rfl ?_
                          refine hk _ _ ⟨false, ?_⟩
                          rw [hpo]
                          repeat (first | simp (disch := first | omega | assumption) only [↓reduceIte, go_sem, g3, g13, g14, g15] | with_reducible refine Gst.now ?_ | with_reducible refine vawp_draw mixed (by kernel_rfl) ?_ | with_reducible first | refine lwV_out ?_ | refine lwV_out0 ?_ | refine And.intro (by omega) ?_ | fail)
                          exact ⟨by rw [fin, List.map_append], hW4⟩
                    · repeat (first | simp (disch := first | omega | assumption) only [↓reduceIte, go_sem, hb3] | with_reducible first | refine lwV_out ?_ | refine lwV_out0 ?_ | refine And.intro (by omega) ?_ | fail)
                      repeat (first | simp (disch := first | omega | assumption) only [↓reduceIte, go_sem] | with_reducible first | refine lwV_out ?_ | refine lwV_out0 ?_ | refine And.intro (by omega) ?_ | fail)
                      apply vany_two 0 3
                      case hr => kernel_rfl
                      case ho => rfl
                      case ho' => rfl
                      · repeat (first | simp (disch := first | omega | assumption) only [↓reduceIte, go_sem, g4] | with_reducible first | refine lwV_out ?_ | refine lwV_out0 ?_ | refine And.intro (by omega) ?_ | fail)
                        repeat (first | simp (disch := first | omega | assumption) only [↓reduceIte, go_sem] | with_reducible first | refine lwV_out ?_ | refine lwV_out0 ?_ | refine And.intro (by omega) ?_ | fail)
                        apply vany_two 1 3
                        case hr => kernel_rfl
                        case ho => rfl
                        case ho' => rfl
                        · repeat (first | simp (disch := first | omega | assumption) only [↓reduceIte, go_sem, g4] | with_reducible first | refine lwV_out ?_ | refine lwV_out0 ?_ | refine And.intro (by omega) ?_ | fail)
                          with_reducible refine call_ok ?_
                          refine ralign0_v rfl (by omega) fun jx hjx => .now ?_
                          have hqx : q ≠ jx := new_ne hb3 hjx
                          repeat (first | simp (disch := first | omega | assumption) only [↓reduceIte, go_sem] | with_reducible first | refine lwV_out ?_ | refine lwV_out0 ?_ | refine And.intro (by omega) ?_ | fail)
                          apply vany_one 3
                          case hr => kernel_rfl
                          case ho => rfl
                          repeat (first | simp (disch := first | omega | assumption) only [↓reduceIte, go_sem, hb3] | with_reducible first | refine lwV_out ?_ | refine lwV_out0 ?_ | refine And.intro (by omega) ?_ | fail)
                          repeat (first | simp (disch := first | omega | assumption) only [↓reduceIte, go_sem] | with_reducible first | refine lwV_out ?_ | refine lwV_out0 ?_ | refine And.intro (by omega) ?_ | fail)
                          apply vany_one 4
                          case hr => kernel_rfl
                          case ho => rfl
                          repeat (first | simp (disch := first | omega | assumption) only [↓reduceIte, go_sem] | with_reducible first | refine lwV_out ?_ | refine lwV_out0 ?_ | refine And.intro (by omega) ?_ | fail)
                          with_reducible refine call_ok ?_
                          refine rbits_v rfl (by omega) o2 fun jb hjb => .iso hjb ?_
                          repeat (first | simp (disch := first | omega | assumption) only [↓reduceIte, go_sem] | with_reducible first | refine lwV_out ?_ | refine lwV_out0 ?_ | refine And.intro (by omega) ?_ | fail)
                          apply vany_one 5
                          case hr => kernel_rfl
                          case ho => rfl
                          repeat (first | simp (disch := first | omega | assumption) only [↓reduceIte, go_sem] | with_reducible first | refine lwV_out ?_ | refine lwV_out0 ?_ | refine And.intro (by omega) ?_ | fail)
                          apply vApp_own_isl ap25 (by simp only [go_sem])
                          case hv => first | (simp []; done) | (simp []; omega)
                          case hj => repeat (first | exact hset_at _ _ _ | assumption | refine (hset_ne _ _ (by first | omega | assumption)).trans ?_ | refine (hdel_ne _ (by first | omega | assumption)).trans ?_ | fail)
                          case hl => first | (simp []; done) | (simp []; omega)
                          case h1 => first | omega | (simp []; omega) | (simp []; done)
                          case h2 => first | omega | (simp []; omega) | (simp []; done)
                          intro jy hjy
                          simp (disch := first | omega | assumption) only [go_sem, hset_none, hdel_none] at hjy
                          try simp (disch := first | omega | assumption) only [hset_none, hdel_none] at hjy
                          repeat (first | simp (disch := first | omega | assumption) only [↓reduceIte, go_sem] | with_reducible first | refine lwV_out ?_ | refine lwV_out0 ?_ | refine And.intro (by omega) ?_ | fail)
                          apply vany_one 6
                          case hr => kernel_rfl
                          case ho => rfl
                          repeat (first | simp (disch := first | omega | assumption) only [↓reduceIte, go_sem] | with_reducible first | refine lwV_out ?_ | refine lwV_out0 ?_ | refine And.intro (by omega) ?_ | fail)
                          repeat (first | simp (disch := first | omega | assumption) only [↓reduceIte, go_sem] | with_reducible first | refine lwV_out ?_ | refine lwV_out0 ?_ | refine And.intro (by omega) ?_ | fail)
                          refine vany_end (by kernel_rfl) ?_
                          repeat (first | simp (disch := first | omega | assumption) only [↓reduceIte, go_sem] | with_reducible first | refine lwV_out ?_ | refine lwV_out0 ?_ | refine And.intro (by omega) ?_ | fail)
                          refine .frz1 4 jy (hset_at _ _ _) rfl ?_
                          refine hk _ _ ⟨false, ?_⟩
                          rw [hpo]
                          repeat (first | simp (disch := first | omega | assumption) only [↓reduceIte, go_sem, g3, g13, g14, g15] | with_reducible refine Gst.now ?_ | with_reducible refine vawp_draw mixed (by kernel_rfl) ?_ | with_reducible first | refine lwV_out ?_ | refine lwV_out0 ?_ | refine And.intro (by omega) ?_ | fail)
                          exact ⟨by rw [fin, List.map_append], hW4⟩
                        · repeat (first | simp (disch := first | omega | assumption) only [↓reduceIte, go_sem, hb3] | with_reducible first | refine lwV_out ?_ | refine lwV_out0 ?_ | refine And.intro (by omega) ?_ | fail)
                          repeat (first | simp (disch := first | omega | assumption) only [↓reduceIte, go_sem] | with_reducible first | refine lwV_out ?_ | refine lwV_out0 ?_ | refine And.intro (by omega) ?_ | fail)
                          apply vany_one 1
                          case hr => kernel_rfl
                          case ho => rfl
                          repeat (first | simp (disch := first | omega | assumption) only [↓reduceIte, go_sem, g4] | with_reducible first | refine lwV_out ?_ | refine lwV_out0 ?_ | refine And.intro (by omega) ?_ | fail)
                          with_reducible refine call_ok ?_
                          refine ralign0_v rfl (by omega) fun jx hjx => .now ?_
                          have hqx : q ≠ jx := new_ne hb3 hjx
                          repeat (first | simp (disch := first | omega | assumption) only [↓reduceIte, go_sem] | with_reducible first | refine lwV_out ?_ | refine lwV_out0 ?_ | refine And.intro (by omega) ?_ | fail)
                          apply vany_one 4
                          case hr => kernel_rfl
                          case ho => rfl
                          repeat (first | simp (disch := first | omega | assumption) only [↓reduceIte, go_sem] | with_reducible first | refine lwV_out ?_ | refine lwV_out0 ?_ | refine And.intro (by omega) ?_ | fail)
                          with_reducible refine call_ok ?_
                          refine rbits_v rfl (by omega) o2 fun jb hjb => .iso hjb ?_
                          repeat (first | simp (disch := first | omega | assumption) only [↓reduceIte, go_sem] | with_reducible first | refine lwV_out ?_ | refine lwV_out0 ?_ | refine And.intro (by omega) ?_ | fail)
                          apply vany_one 5
                          case hr => kernel_rfl
                          case ho => rfl
                          repeat (first | simp (disch := first | omega | assumption) only [↓reduceIte, go_sem] | with_reducible first | refine lwV_out ?_ | refine lwV_out0 ?_ | refine And.intro (by omega) ?_ | fail)
                          apply vApp_own_isl ap25 (by simp only [go_sem])
                          case hv => first | (simp []; done) | (simp []; omega)
                          case hj => repeat (first | exact hset_at _ _ _ | assumption | refine (hset_ne _ _ (by first | omega | assumption)).trans ?_ | refine (hdel_ne _ (by first | omega | assumption)).trans ?_ | fail)
                          case hl => first | (simp []; done) | (simp []; omega)
                          case h1 => first | omega | (simp []; omega) | (simp []; done)
                          case h2 => first | omega | (simp []; omega) | (simp []; done)
                          intro jy hjy
                          simp (disch := first | omega | assumption) only [go_sem, hset_none, hdel_none] at hjy
                          try simp (disch := first | omega | assumption) only [hset_none, hdel_none] at hjy
                          repeat (first | simp (disch := first | omega | assumption) only [↓reduceIte, go_sem] | with_reducible first | refine lwV_out ?_ | refine lwV_out0 ?_ | refine And.intro (by omega) ?_ | fail)
                          apply vany_one 6
                          case hr => kernel_rfl
                          case ho => rfl
                          repeat (first | simp (disch := first | omega | assumption) only [↓reduceIte, go_sem] | with_reducible first | refine lwV_out ?_ | refine lwV_out0 ?_ | refine And.intro (by omega) ?_ | fail)
                          repeat (first | simp (disch := first | omega | assumption) only [↓reduceIte, go_sem] | with_reducible first | refine lwV_out ?_ | refine lwV_out0 ?_ | refine And.intro (by omega) ?_ | fail)
                          refine vany_end (by kernel_rfl) ?_
                          repeat (first | simp (disch := first | omega | assumption) only [↓reduceIte, go_sem] | with_reducible first | refine lwV_out ?_ | refine lwV_out0 ?_ | refine And.intro (by omega) ?_ | fail)
                          refine .frz1 4 jy (hset_at _ _ _) rfl ?_
                          refine hk _ _ ⟨false, ?_⟩
                          rw [hpo]
                          repeat (first | simp (disch := first | omega | assumption) only [↓reduceIte, go_sem, g3, g13, g14, g15] | with_reducible refine Gst.now ?_ | with_reducible refine vawp_draw mixed (by kernel_rfl) ?_ | with_reducible first | refine lwV_out ?_ | refine lwV_out0 ?_ | refine And.intro (by omega) ?_ | fail)
                          exact ⟨by rw [fin, List.map_append], hW4⟩
                      · repeat (first | simp (disch := first | omega | assumption) only [↓reduceIte, go_sem, hb3] | with_reducible first | refine lwV_out ?_ | refine lwV_out0 ?_ | refine And.intro (by omega) ?_ | fail)
                        repeat (first | simp (disch := first | omega | assumption) only [↓reduceIte, go_sem] | with_reducible first | refine lwV_out ?_ | refine lwV_out0 ?_ | refine And.intro (by omega) ?_ | fail)
                        apply vany_one 0
                        case hr => kernel_rfl
                        case ho => rfl
                        repeat (first | simp (disch := first | omega | assumption) only [↓reduceIte, go_sem, g4] | with_reducible first | refine lwV_out ?_ | refine lwV_out0 ?_ | refine And.intro (by omega) ?_ | fail)
                        repeat (first | simp (disch := first | omega | assumption) only [↓reduceIte, go_sem] | with_reducible first | refine lwV_out ?_ | refine lwV_out0 ?_ | refine And.intro (by omega) ?_ | fail)
                        apply vany_one 1
                        case hr => kernel_rfl
                        case ho => rfl
                        repeat (first | simp (disch := first | omega | assumption) only [↓reduceIte, go_sem, g4] | with_reducible first | refine lwV_out ?_ | refine lwV_out0 ?_ | refine And.intro (by omega) ?_ | fail)
                        with_reducible refine call_ok ?_
                        refine ralign0_v rfl (by omega) fun jx hjx => .now ?_
                        have hqx : q ≠ jx := new_ne hb3 hjx
                        repeat (first | simp (disch := first | omega | assumption) only [↓reduceIte, go_sem] | with_reducible first | refine lwV_out ?_ | refine lwV_out0 ?_ | refine And.intro (by omega) ?_ | fail)
                        apply vany_one 4
                        case hr => kernel_rfl
                        case ho => rfl
                        repeat (first | simp (disch := first | omega | assumption) only [↓reduceIte, go_sem] | with_reducible first | refine lwV_out ?_ | refine lwV_out0 ?_ | refine And.intro (by omega) ?_ | fail)
                        with_reducible refine call_ok ?_
                        refine rbits_v rfl (by omega) o2 fun jb hjb => .iso hjb ?_
                        repeat (first | simp (disch := first | omega | assumption) only [↓reduceIte, go_sem] | with_reducible first | refine lwV_out ?_ | refine lwV_out0 ?_ | refine And.intro (by omega) ?_ | fail)
                        apply vany_one 5
                        case hr => kernel_rfl
                        case ho => rfl
                        repeat (first | simp (disch := first | omega | assumption) only [↓reduceIte, go_sem] | with_reducible first | refine lwV_out ?_ | refine lwV_out0 ?_ | refine And.intro (by omega) ?_ | fail)
                        apply vApp_own_isl ap25 (by simp only [go_sem])
                        case hv => first | (simp []; done) | (simp []; omega)
                        case hj => repeat (first | exact hset_at _ _ _ | assumption | refine (hset_ne _ _ (by first | omega | assumption)).trans ?_ | refine (hdel_ne _ (by first | omega | assumption)).trans ?_ | fail)
                        case hl => first | (simp []; done) | (simp []; omega)
                        case h1 => first | omega | (simp []; omega) | (simp []; done)
                        case h2 => first | omega | (simp []; omega) | (simp []; done)
                        intro jy hjy
                        simp (disch := first | omega | assumption) only [go_sem, hset_none, hdel_none] at hjy
                        try simp (disch := first | omega | assumption) only [hset_none, hdel_none] at hjy
                        repeat (first | simp (disch := first | omega | assumption) only [↓reduceIte, go_sem] | with_reducible first | refine lwV_out ?_ | refine lwV_out0 ?_ | refine And.intro (by omega) ?_ | fail)
                        apply vany_one 6
                        case hr => kernel_rfl
                        case ho => rfl
                        repeat (first | simp (disch := first | omega | assumption) only [↓reduceIte, go_sem] | with_reducible first | refine lwV_out ?_ | refine lwV_out0 ?_ | refine And.intro (by omega) ?_ | fail)
                        repeat (first | simp (disch := first | omega | assumption) only [↓reduceIte, go_sem] | with_reducible first | refine lwV_out ?_ | refine lwV_out0 ?_ | refine And.intro (by omega) ?_ | fail)
                        refine vany_end (by kernel_rfl) ?_
                        repeat (first | simp (disch := first | omega | assumption) only [↓reduceIte, go_sem] | with_reducible first | refine lwV_out ?_ | refine lwV_out0 ?_ | refine And.intro (by omega) ?_ | fail)
                        refine .frz1 4 jy (hset_at _ _ _) rfl ?_
                        refine hk _ _ ⟨false, ?_⟩
                        rw [hpo]
                        repeat (first | simp (disch := first | omega | assumption) only [↓reduceIte, go_sem, g3, g13, g14, g15] | with_reducible refine Gst.now ?_ | with_reducible refine vawp_draw mixed (by kernel_rfl) ?_ | with_reducible first | refine lwV_out ?_ | refine lwV_out0 ?_ | refine And.intro (by omega) ?_ | fail)
                        exact ⟨by rw [fin, List.map_append], hW4⟩
                  · repeat (first | simp (disch := first | omega | assumption) only [↓reduceIte, go_sem, e0, e1, e2, e3, e4] | with_reducible refine Gst.nowV ?_ | with_reducible refine vawp_draw mixed (by kernel_rfl) ?_ | with_reducible first | refine lwV_out ?_ | refine lwV_out0 ?_ | refine And.intro (by omega) ?_ | fail)
                    have hW4 := hWq.del (hset_at _ _ _)
                    rw [hdel_hset hq0] at hW4
                    have hpo : playO X o = X := by unfold playO; rw [if_neg (by omega), if_neg e2, if_neg e3, if_neg e4]
                    refine hk _ _ ⟨nlx, ?_⟩
                    rw [hpo]
                    repeat (first | simp (disch := first | omega | assumption) only [↓reduceIte, go_sem, g3, g4, g13, g14, g15] | with_reducible refine Gst.now ?_ | with_reducible refine vawp_draw mixed (by kernel_rfl) ?_ | with_reducible first | refine lwV_out ?_ | refine lwV_out0 ?_ | refine And.intro (by omega) ?_ | fail)
                    exact hW
        · refine .drop q ?_
          generalize playO X o = Y at *
          repeat (first | simp (disch := first | omega | assumption) only [↓reduceIte, go_sem, f3] | with_reducible refine Gst.now ?_ | with_reducible refine vawp_draw mixed (by kernel_rfl) ?_ | with_reducible first | refine lwV_out ?_ | refine lwV_out0 ?_ | refine And.intro (by omega) ?_ | fail)
          with_reducible refine call_ok ?_
          refine len_v fh ?_
          repeat (first | simp (disch := first | omega | assumption) only [↓reduceIte, go_sem, f3, f4] | with_reducible refine Gst.now ?_ | with_reducible refine vawp_draw mixed (by kernel_rfl) ?_ | with_reducible first | refine lwV_out ?_ | refine lwV_out0 ?_ | refine And.intro (by omega) ?_ | fail)
          with_reducible refine call_ok ?_
          refine done_v fh (by omega) fun nl2 hnl2 => ?_
          repeat (first | simp (disch := first | omega | assumption) only [↓reduceIte, go_sem, f4] | with_reducible refine Gst.now ?_ | with_reducible refine vawp_draw mixed (by kernel_rfl) ?_ | with_reducible first | refine lwV_out ?_ | refine lwV_out0 ?_ | refine And.intro (by omega) ?_ | fail)
          with_reducible refine call_ok ?_
          refine rpack_v rfl (by omega) hX2b fun jx hjx => .iso hjx ?_
          repeat (first | simp (disch := first | omega | assumption) only [↓reduceIte, go_sem] | with_reducible refine Gst.now ?_ | with_reducible refine vawp_draw mixed (by kernel_rfl) ?_ | with_reducible first | refine lwV_out ?_ | refine lwV_out0 ?_ | refine And.intro (by omega) ?_ | fail)
          with_reducible refine call_ok ?_
          refine same_v rfl rfl (by rw [packB_len]; omega) (by rw [packB_len]; omega) ?_
          rw [decide_eq_true rfl]
          repeat (first | simp (disch := first | omega | assumption) only [↓reduceIte, go_sem, f15] | with_reducible refine Gst.now ?_ | with_reducible refine vawp_draw mixed (by kernel_rfl) ?_ | with_reducible first | refine lwV_out ?_ | refine lwV_out0 ?_ | refine And.intro (by omega) ?_ | fail)
          refine ⟨k - 1, by omega, i + 1, nlx, by omega, ?_⟩
          repeat (first | simp (disch := first | omega | assumption) only [↓reduceIte, go_sem, f3, f13, f14] | with_reducible refine Gst.now ?_ | with_reducible refine vawp_draw mixed (by kernel_rfl) ?_ | with_reducible first | refine lwV_out ?_ | refine lwV_out0 ?_ | refine And.intro (by omega) ?_ | fail)
          rw [htk]
          exact ⟨f4, fh⟩
      · repeat (first | simp (disch := first | omega | assumption) only [↓reduceIte, go_sem] | with_reducible refine Gst.now ?_ | with_reducible refine vawp_draw mixed (by kernel_rfl) ?_ | with_reducible first | refine lwV_out ?_ | refine lwV_out0 ?_ | refine And.intro (by omega) ?_ | fail)
        refine hq _ _ ?_
        repeat (first | simp (disch := first | omega | assumption) only [↓reduceIte, go_sem] | with_reducible refine Gst.now ?_ | with_reducible refine vawp_draw mixed (by kernel_rfl) ?_ | with_reducible first | refine lwV_out ?_ | refine lwV_out0 ?_ | refine And.intro (by omega) ?_ | fail)
        exact .now rfl
end
end Go.Proofs.Ytnnemehejldchaa.VPlay
