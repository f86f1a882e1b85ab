/- what is put is got, over the machine of values. -/
import Derived.Test.YtnnemehejldchaaProg
import Derived.Test.YtnnemehejldchaaAbV9
import Derived.Test.YtnnemehejldchaaAbFacts
import Derived.Test.YtnnemehejldchaaAbBitsM
import Derived.Test.YtnnemehejldchaaAbVBits
import Derived.Test.YtnnemehejldchaaAbVBits2
import Derived.Test.YtnnemehejldchaaAbVBits3
import Derived.Test.YtnnemehejldchaaAbVBits4
import Derived.Test.YtnnemehejldchaaAbVBits5
import Derived.Test.YtnnemehejldchaaAbVLaw
import Derived.KernelRfl
import Derived.Laws.BitsAllLaws
set_option linter.unusedVariables false
set_option linter.unusedSimpArgs false
set_option maxRecDepth 100000
set_option maxHeartbeats 4000000
namespace Go.Proofs.Ytnnemehejldchaa.VBack
open Go.RowKit Go.Proofs.AbM Go.Proofs.Ytnnemehejldchaa.Facts Go.Proofs.Ytnnemehejldchaa.BitsM Go.Proofs.Ytnnemehejldchaa.VBits Go.Proofs.Ytnnemehejldchaa.VBits2 Go.Proofs.Ytnnemehejldchaa.VBits3 Go.Proofs.Ytnnemehejldchaa.VBits4 Go.Proofs.Ytnnemehejldchaa.VBits5 Go.Proofs.Ytnnemehejldchaa.VLaw
attribute [local go_sem] vawp_skip_eq vawp_seq_eq vawp_region_eq vawp_cond_ite vawp_block_eq vawp_exit_eq vawp_ret_eq thenV_ret thenV_exit thenV_normal inBlockV_normal inBlockV_ret inBlockV_exit resKV_nil resKV_tmp resKV_cell oneV_one oneV_nil oneV_more initV_nil initV_cons updV_at evv_tmp evv_func evv_global evv_int evv_bool evv_str evv_snil evv_pnil evv_agg ofV3_int ofV3_bool ofV3_str ofV3_snil ofV3_pnil vok_tmp vok_func vok_global vok_int vok_bool vok_str vok_snil vok_pnil vok_agg cloV3_int cloV3_bool cloV3_str cloV3_snil cloV3_pnil voks_nil voks_cons scV_int scV_bool scV_str isBlV_b isBV_t isBV_f lwV_none lwV_sc lwV_agg lwV_tup lwV_isl lwV_own lwV_op lwV_ip lwV_fn lwV_junk vops_nil vops_n vops_s gsN_eq vop dstOk_some dstOk_none pkV_b blkV_set eRead_f eRead_t vLoad_op vLoad_ip vStore_op cells_sc cells_isl cells_own cells_op cells_ip cells_fn cells_agg parts_sc parts_isl parts_own parts_op parts_ip parts_fn parts_agg one_sc one_isl one_own one_op one_ip one_fn vField_op vField_ip ePart_f ePart_t vFieldV_agg vIx_isl vIx_own vIx_op vIx_ip vIxV_agg vIxV_str vLen_str vLen_isl vLen_own vLen_agg bndE_none bndE_int vSlice_isl vSlice_str vBin_add vBin_sub vBin_mul vBin_quo vBin_rem vBin_and vBin_or vBin_xor vBin_andNot vBin_eql vBin_neq vBin_lss vBin_leq vBin_gtr vBin_geq vBin_shr_i8 vBin_shl_i8 vBin_shr_i16 vBin_shl_i16 vBin_shr_i32 vBin_shl_i32 vBin_shr_i64 vBin_shl_i64 vBin_shr_u8 vBin_shl_u8 vBin_shr_u16 vBin_shl_u16 vBin_shr_u32 vBin_shl_u32 vBin_shr_u64 vBin_shl_u64 vBin_seq vBin_sne vBin_isln vBin_opn vBin_ipn ex_sc ex_sc2 ex_sc3 ex_tup calleeV wSc_pb wSc_pi wSc_not wSc_neg wSc_com wSc_min2 wSc_max2 vfold_nil vfold_one vfold_cons vfill_nil vfill_e eFill_s vBuild vBox vAlloc setV_map setV_zs setV_zn setV_s hset_hset eConv_ss vConv_e iv_eq ivI_eq ex_get ex_getI set_iv set_ivI okNil isNilV isSlV hdel_at hset_at List.map_toArray List.map_cons List.map_nil List.nil_append List.cons_append List.append_nil List.toList_toArray List.getElem?_toArray List.getElem?_cons_zero List.getElem?_cons_succ List.set_cons_zero List.set_cons_succ List.set_set List.length_cons List.length_nil List.length_set List.length_map List.all_cons List.all_nil List.drop_zero List.drop_succ_cons List.take_succ_cons List.take_zero List.flatMap_cons Bool.and_eq_true true_and and_true if_true if_false ite_true ite_false forall_eq' forall_eq exists_eq_left exists_eq_left' exists_eq' Value.bool.injEq Value.int.injEq Value.string.injEq Value.pointer.injEq Option.some.injEq AV.sc.injEq AV.op.injEq AV.ip.injEq AV.own.injEq AV.agg.injEq VB.cells.injEq VB.iter.injEq Prod.mk.injEq decide_eq_true_eq decide_eq_false_iff_not Nat.reduceEqDiff Nat.reduceLT Nat.reduceLeDiff Nat.reduceSub Nat.reduceBEq reduceIte Int.reduceLE Int.reduceLT Int.reduceToNat Int.reduceNeg Int.reduceEq Int.reduceNe Int.cast_ofNat_Int Nat.reduceMul Nat.reduceAdd Nat.reduceDiv Nat.reduceMod Nat.reducePow Int.reduceSub Int.reduceAdd Int.reduceMul Int.reducePow Option.isSome_some Option.isSome_none Option.bind_some Option.map_some Option.map_none Option.toList_some Option.toList_none true_or or_true or_false false_or Bool.not_true Bool.not_false Bool.not_eq_true Bool.false_eq_true Bool.not_not false_implies true_implies implies_true Nat.zero_add Nat.add_zero Nat.mul_one Bool.not_eq_true' Bool.true_eq_false Bool.and_true Bool.true_and Bool.and_false Bool.false_and Bool.or_true Bool.true_or Bool.or_false Bool.false_or Option.isNone_some Option.isNone_none Int.reduceBEq Int.reduceBNe beq_self_eq_true bne_self_eq_false beq_iff_eq bne_iff_ne ne_eq Int.toNat_natCast gt_lt ge_le c_add c_mul c_sub c_addn c_nadd c_muln c_nmul c_subn c_nsub c_divn c_modn c_div c_mod c_tdivn c_tmodn c_tdiv c_tmod c_pow c_nn c_beq c_beqn c_bne c_bnen wr64 wr32 wru64 wru32 wru16 wru8 c_if c_lt c_le c_eq c_ltn c_len c_nlt c_nle c_eqn m_drop m_take Nat.add_sub_cancel_left Nat.add_sub_cancel Int.reduceTMod Int.reduceTDiv Int.reduceMod Int.reduceDiv isC_some hset_ne hdel_ne hdel_hset hdel_hset_ne blkV_nset blkV_ndel hset_hdel
attribute [local go_sem high] vops_pk vops_mv vops_as vops_smv
attribute [local go_sem] ag3 sz3 zc3 ik3 ag4 sz4 zc4 ag5 sz5 zc5 ik5 ag9 sz9 zc9 iq9 ag22 sz22 el22 zc22 is22 ag25 sz25 el25 zc25 is25 ag27 sz27 zc27 bo27 ag28 sz28 zc28 ik28 ag30 sz30 zc30 bo30 ag32 sz32 zc32 pt32 ag49 sz49 zc49 pt49 ag54 sz54 zc54 bo54 of27_0 fd27_0 of27_1 fd27_1 of30_0 fd30_0 of30_1 fd30_1 of30_2 fd30_2 of30_3 fd30_3 of54_0 fd54_0 of54_1 fd54_1 eqb neb
section
variable {n : Nat} {h : VH} {K : AV → VH → Prop}
attribute [local go_sem] opC
def opNn (o : OpV) : Nat := (o.n % 32).toNat
def opBits (o : OpV) : List Nat := if o.kind = 2 then codeTo o.v (opNn o) (opNn o) else lowBits o.v (opNn o)
theorem opBits_bits (o : OpV) : IsBits (opBits o) := by
  unfold opBits; split
  · exact codeTo_bits _ _ _
  · exact lowBits_bits _ _
theorem opBits_len (o : OpV) : (opBits o).length = opNn o := by
  unfold opBits; split
  · exact codeTo_len _ _ _
  · exact lowBits_len _ _
theorem opNn_lt (o : OpV) : opNn o < 32 := by unfold opNn; omega
def allBits (ops : List OpV) : List Nat := ops.flatMap opBits
theorem allBits_bits (ops : List OpV) : IsBits (allBits ops) := fun x hx => by
  obtain ⟨o, _, hx⟩ := List.mem_flatMap.1 hx
  exact opBits_bits o x hx
theorem allBits_len : ∀ ops : List OpV, (allBits ops).length ≤ 32 * ops.length
  | [] => by simp [allBits]
  | o :: ops => by
    have := allBits_len ops
    have h2 := opBits_len o
    have h3 := opNn_lt o
    unfold allBits at *
    rw [List.flatMap_cons, List.length_append, List.length_cons]
    omega
theorem take_op {ops : List OpV} {i : Nat} (hi : i < ops.length) : ops.take (i + 1) = ops.take i ++ [ops.getD i default] := by
  rw [List.take_succ_eq_append_getElem hi, List.getD_eq_getElem?_getD, List.getElem?_eq_getElem hi]; rfl
theorem allBits_take {ops : List OpV} {i : Nat} (hi : i < ops.length) : allBits (ops.take (i + 1)) = allBits (ops.take i) ++ opBits (ops.getD i default) := by
  rw [take_op hi]; unfold allBits; rw [List.flatMap_append]; simp
theorem allBits_split {ops : List OpV} {i : Nat} (hi : i < ops.length) : allBits ops = allBits (ops.take i) ++ opBits (ops.getD i default) ++ allBits (ops.drop (i + 1)) := by
  rw [← allBits_take hi]
  unfold allBits
  rw [← List.flatMap_append, List.take_append_drop]
theorem hs32_nn (o : OpV) : hs32 ((opNn o : Nat) : Int) = opNn o := by have := opNn_lt o; unfold hs32; omega
theorem hs32_nn' {k : Nat} (h : k ≤ 32) : hs32 ((k : Nat) : Int) = k := by unfold hs32; omega
theorem back_v {l : Nat} {nl : Bool} {ops : List OpV} (hl : l = ops.length) (hb : ops.length < 140737488355328) (ho : ∀ o ∈ ops, OkOp o) : VC Try.prog GL (n + 5) 3 [.isl nl l (ops.flatMap opC)] (fun _ => none) (fun v _ => v = (.sc (.bool (true)))) := by
  refine VC_go Try.func3 rfl (by decide) Try.ntmps3 Try.results3 rfl fun Q hq hn => ?_
  subst hl
  have hfl := flat_len opC_len ops
  repeat (first | simp (disch := first | omega | assumption) only [↓reduceIte, go_sem] | with_reducible refine Gst.now ?_ | with_reducible refine vawp_draw mixed (by kernel_rfl) ?_ | with_reducible first | refine lwV_out ?_ | refine lwV_out0 ?_ | refine And.intro (by omega) ?_ | fail)
  with_reducible refine call_ok ?_
  refine alive_v fun h0 => ?_
  repeat (first | simp (disch := first | omega | assumption) only [↓reduceIte, go_sem] | with_reducible refine Gst.now ?_ | with_reducible refine vawp_draw mixed (by kernel_rfl) ?_ | with_reducible first | refine lwV_out ?_ | refine lwV_out0 ?_ | refine And.intro (by omega) ?_ | fail)
  with_reducible refine call_ok ?_
  refine few_v rfl hb ho ?_
  cases hf : fewB ops with
  | false =>
    repeat (first | simp (disch := first | omega | assumption) only [↓reduceIte, go_sem] | with_reducible refine Gst.now ?_ | with_reducible refine vawp_draw mixed (by kernel_rfl) ?_ | with_reducible first | refine lwV_out ?_ | refine lwV_out0 ?_ | refine And.intro (by omega) ?_ | fail)
    refine hq _ _ ?_
    repeat (first | simp (disch := first | omega | assumption) only [↓reduceIte, go_sem] | with_reducible refine Gst.now ?_ | with_reducible refine vawp_draw mixed (by kernel_rfl) ?_ | with_reducible first | refine lwV_out ?_ | refine lwV_out0 ?_ | refine And.intro (by omega) ?_ | fail)
    exact .now rfl
  | true =>
    have hfew : ops.length ≤ 40 := by
      unfold fewB at hf
      rw [Bool.and_eq_true] at hf
      simpa using hf.2
    have hX := allBits_bits ops
    have hXl := allBits_len ops
    repeat (first | simp (disch := first | omega | assumption) only [↓reduceIte, go_sem] | with_reducible refine Gst.now ?_ | with_reducible refine vawp_draw mixed (by kernel_rfl) ?_ | with_reducible first | refine lwV_out ?_ | refine lwV_out0 ?_ | refine And.intro (by omega) ?_ | fail)
    intro j hj
    repeat (first | simp (disch := first | omega | assumption) only [↓reduceIte, go_sem] | with_reducible refine Gst.now ?_ | with_reducible refine vawp_draw mixed (by kernel_rfl) ?_ | with_reducible first | refine lwV_out ?_ | refine lwV_out0 ?_ | refine And.intro (by omega) ?_ | fail)
    refine vawp_loop (k := ops.length) (fun k ρ h1 => ∃ i : Nat, k + i = ops.length ∧ ρ 0 = .isl nl ops.length (ops.flatMap opC) ∧ ρ 3 = .op j 0 ∧ ρ 22 = .isl nl ops.length (ops.flatMap opC) ∧ ρ 23 = (.sc (.int .i64 (ops.length))) ∧ ρ 24 = (.sc (.int .i64 (i))) ∧ WrH h0 j (allBits (ops.take i)) h1) ?_ ?_
    · refine ⟨0, by omega, ?_⟩
      repeat (first | simp (disch := first | omega | assumption) only [↓reduceIte, go_sem] | with_reducible refine Gst.now ?_ | with_reducible refine vawp_draw mixed (by kernel_rfl) ?_ | with_reducible first | refine lwV_out ?_ | refine lwV_out0 ?_ | refine And.intro (by omega) ?_ | fail)
      exact ⟨hj, .inl ⟨rfl, rfl⟩⟩
    · rintro k ρ h1 ⟨i, hki, g0, g3, g22, g23, g24, hW⟩
      repeat (first | simp (disch := first | omega | assumption) only [↓reduceIte, go_sem, g0, g3, g22, g23, g24] | with_reducible refine Gst.now ?_ | with_reducible refine vawp_draw mixed (by kernel_rfl) ?_ | with_reducible first | refine lwV_out ?_ | refine lwV_out0 ?_ | refine And.intro (by omega) ?_ | fail)
      split
      · have hi : i < ops.length := by omega
        have hel := flat_get opC_len default ops i hi
        have hom : ops.getD i default ∈ ops := by rw [List.getD_eq_getElem?_getD, List.getElem?_eq_getElem hi]; exact List.getElem_mem hi
        have htk := allBits_take hi
        have hlt := allBits_len (ops.take i)
        rw [List.length_take] at hlt
        generalize ops.getD i default = o at *
        obtain ⟨o1, o2, o3, o4⟩ := ho o hom
        have en : bits .and .i64 o.n 31 = ((opNn o : Nat) : Int) := and31 _
        repeat (first | simp (disch := first | omega | assumption) only [↓reduceIte, go_sem, g22, g24, hel] | with_reducible refine Gst.now ?_ | with_reducible refine vawp_draw mixed (by kernel_rfl) ?_ | with_reducible first | refine lwV_out ?_ | refine lwV_out0 ?_ | refine And.intro (by omega) ?_ | fail)
        intro r hr
        have hW2 := (hW.frame (b := .cells 30 false (opC o)) hr)
        have hr0 := hW.none hr
        repeat (first | simp (disch := first | omega | assumption) only [↓reduceIte, go_sem, g3, en] | with_reducible refine Gst.now ?_ | with_reducible refine vawp_draw mixed (by kernel_rfl) ?_ | with_reducible first | refine lwV_out ?_ | refine lwV_out0 ?_ | refine And.intro (by omega) ?_ | fail)
        split
        · rename_i hk
          repeat (first | simp (disch := first | omega | assumption) only [↓reduceIte, go_sem, g3] | with_reducible refine Gst.now ?_ | with_reducible refine vawp_draw mixed (by kernel_rfl) ?_ | with_reducible first | refine lwV_out ?_ | refine lwV_out0 ?_ | refine And.intro (by omega) ?_ | fail)
          with_reducible refine call_ok ?_
          refine code_v hW2.1 (allBits_bits _) (by omega) o1 fun h3 hW3 => ?_
          have hW4 := hW3.del (hset_at _ _ _)
          rw [hdel_hset hr0] at hW4
          repeat (first | simp (disch := first | omega | assumption) only [↓reduceIte, go_sem] | with_reducible refine vawp_draw mixed (by kernel_rfl) ?_ | with_reducible first | refine lwV_out ?_ | refine lwV_out0 ?_ | refine And.intro (by omega) ?_ | fail)
          refine .drop r ?_
          repeat (first | simp (disch := first | omega | assumption) only [↓reduceIte, go_sem, g24] | with_reducible refine Gst.now ?_ | with_reducible refine vawp_draw mixed (by kernel_rfl) ?_ | with_reducible first | refine lwV_out ?_ | refine lwV_out0 ?_ | refine And.intro (by omega) ?_ | fail)
          refine ⟨k - 1, by omega, i + 1, by omega, ?_⟩
          repeat (first | simp (disch := first | omega | assumption) only [↓reduceIte, go_sem, g0, g3, g22, g23] | with_reducible refine Gst.now ?_ | with_reducible refine vawp_draw mixed (by kernel_rfl) ?_ | with_reducible first | refine lwV_out ?_ | refine lwV_out0 ?_ | refine And.intro (by omega) ?_ | fail)
          rw [htk]
          unfold opBits
          rw [if_pos hk]
          rwa [hs32_nn] at hW4
        · rename_i hk
          repeat (first | simp (disch := first | omega | assumption) only [↓reduceIte, go_sem, g3] | with_reducible refine Gst.now ?_ | with_reducible refine vawp_draw mixed (by kernel_rfl) ?_ | with_reducible first | refine lwV_out ?_ | refine lwV_out0 ?_ | refine And.intro (by omega) ?_ | fail)
          with_reducible refine call_ok ?_
          refine put_v hW2.1 (allBits_bits _) (by omega) o1 fun h3 hW3 => ?_
          have hW4 := hW3.del (hset_at _ _ _)
          rw [hdel_hset hr0] at hW4
          repeat (first | simp (disch := first | omega | assumption) only [↓reduceIte, go_sem] | with_reducible refine vawp_draw mixed (by kernel_rfl) ?_ | with_reducible first | refine lwV_out ?_ | refine lwV_out0 ?_ | refine And.intro (by omega) ?_ | fail)
          refine .drop r ?_
          repeat (first | simp (disch := first | omega | assumption) only [↓reduceIte, go_sem, g24] | with_reducible refine Gst.now ?_ | with_reducible refine vawp_draw mixed (by kernel_rfl) ?_ | with_reducible first | refine lwV_out ?_ | refine lwV_out0 ?_ | refine And.intro (by omega) ?_ | fail)
          refine ⟨k - 1, by omega, i + 1, by omega, ?_⟩
          repeat (first | simp (disch := first | omega | assumption) only [↓reduceIte, go_sem, g0, g3, g22, g23] | with_reducible refine Gst.now ?_ | with_reducible refine vawp_draw mixed (by kernel_rfl) ?_ | with_reducible first | refine lwV_out ?_ | refine lwV_out0 ?_ | refine And.intro (by omega) ?_ | fail)
          rw [htk]
          unfold opBits
          rw [if_neg hk]
          rwa [hs32_nn] at hW4
      · have hi : i = ops.length := by omega
        subst hi
        rw [List.take_length] at hW
        repeat (first | simp (disch := first | omega | assumption) only [↓reduceIte, go_sem, g3] | with_reducible refine Gst.now ?_ | with_reducible refine vawp_draw mixed (by kernel_rfl) ?_ | with_reducible first | refine lwV_out ?_ | refine lwV_out0 ?_ | refine And.intro (by omega) ?_ | fail)
        with_reducible refine call_ok ?_
        refine done_v hW (by omega) fun nl2 hnl2 => ?_
        have hpl := packB_len (allBits ops)
        repeat (first | simp (disch := first | omega | assumption) only [↓reduceIte, go_sem] | with_reducible refine Gst.now ?_ | with_reducible refine vawp_draw mixed (by kernel_rfl) ?_ | with_reducible first | refine lwV_out ?_ | refine lwV_out0 ?_ | refine And.intro (by omega) ?_ | fail)
        with_reducible refine call_ok ?_
        refine bread_v rfl fun r hr => ?_
        repeat (first | simp (disch := first | omega | assumption) only [↓reduceIte, go_sem, g0, g3] | with_reducible refine Gst.now ?_ | with_reducible refine vawp_draw mixed (by kernel_rfl) ?_ | with_reducible first | refine lwV_out ?_ | refine lwV_out0 ?_ | refine And.intro (by omega) ?_ | fail)
        refine vawp_loop (k := ops.length) (fun k ρ h2 => ∃ i : Nat, k + i = ops.length ∧ ρ 3 = .op j 0 ∧ ρ 7 = .op r 0 ∧ ρ 45 = .isl nl ops.length (ops.flatMap opC) ∧ ρ 46 = (.sc (.int .i64 (ops.length))) ∧ ρ 47 = (.sc (.int .i64 (i))) ∧ h2 = hset h1 r (.cells 54 false (RdB nl2 (packB (allBits ops)) (allBits (ops.take i)).length))) ?_ ?_
        · refine ⟨0, by omega, ?_⟩
          repeat (first | simp (disch := first | omega | assumption) only [↓reduceIte, go_sem, g0, g3] | with_reducible refine Gst.now ?_ | with_reducible refine vawp_draw mixed (by kernel_rfl) ?_ | with_reducible first | refine lwV_out ?_ | refine lwV_out0 ?_ | refine And.intro (by omega) ?_ | fail)
          rfl
        · rintro k ρ h2 ⟨i, hki, f3, f7, f45, f46, f47, rfl⟩
          repeat (first | simp (disch := first | omega | assumption) only [↓reduceIte, go_sem, f3, f7, f45, f46, f47] | with_reducible refine Gst.now ?_ | with_reducible refine vawp_draw mixed (by kernel_rfl) ?_ | with_reducible first | refine lwV_out ?_ | refine lwV_out0 ?_ | refine And.intro (by omega) ?_ | fail)
          split
          · have hi : i < ops.length := by omega
            have hel := flat_get opC_len default ops i hi
            have hom : ops.getD i default ∈ ops := by rw [List.getD_eq_getElem?_getD, List.getElem?_eq_getElem hi]; exact List.getElem_mem hi
            have hsp := allBits_split hi
            have hlen : (allBits (ops.take (i + 1))).length = (allBits (ops.take i)).length + opNn (ops.getD i default) := by rw [allBits_take hi, List.length_append, opBits_len]
            generalize ops.getD i default = o at *
            obtain ⟨o1, o2, o3, o4⟩ := ho o hom
            have en : bits .and .i64 o.n 31 = ((opNn o : Nat) : Int) := and31 _
            have hN := opNn_lt o
            have hbk : bitsOf (packB (allBits ops)) = padB (allBits ops) := bitsOf_packB hX
            have hall : (allBits ops).length = (allBits (ops.take i)).length + opNn o + (allBits (ops.drop (i + 1))).length := by
              conv => lhs; rw [hsp]
              rw [List.length_append, List.length_append, opBits_len]
            repeat (first | simp (disch := first | omega | assumption) only [↓reduceIte, go_sem, f45, f47, hel] | with_reducible refine Gst.now ?_ | with_reducible refine vawp_draw mixed (by kernel_rfl) ?_ | with_reducible first | refine lwV_out ?_ | refine lwV_out0 ?_ | refine And.intro (by omega) ?_ | fail)
            intro q hq2
            have hqr : q ≠ r := by rintro rfl; rw [hset_at] at hq2; cases hq2
            have hq3 : h1 q = none := by rw [hset_ne _ _ hqr] at hq2; exact hq2
            have hp : 2 ^ opNn o ≤ 2147483648 := by
              have : 2 ^ opNn o ≤ 2 ^ 31 := Nat.pow_le_pow_right (by omega) (by omega)
              exact this
            have hp0 : 0 < 2 ^ opNn o := Nat.pow_pos (by omega)
            have em : bits .and .u32 (o.v : Int) ((1 * 2 ^ opNn o - 1 : Nat) : Int) = ((o.v % 2 ^ opNn o : Nat) : Int) := by rw [Nat.one_mul]; exact mask_u32 o1 hN
            have hb8 := packB_bytes hX
            repeat (first | simp (disch := first | omega | assumption) only [↓reduceIte, go_sem, en, em, f7] | with_reducible refine Gst.now ?_ | with_reducible refine vawp_draw mixed (by kernel_rfl) ?_ | with_reducible first | refine lwV_out ?_ | refine lwV_out0 ?_ | refine And.intro (by omega) ?_ | fail)
            split
            · rename_i hk
              repeat (first | simp (disch := first | omega | assumption) only [↓reduceIte, go_sem] | with_reducible refine Gst.now ?_ | with_reducible refine vawp_draw mixed (by kernel_rfl) ?_ | with_reducible first | refine lwV_out ?_ | refine lwV_out0 ?_ | refine And.intro (by omega) ?_ | fail)
              have hr2 : blkV (hset (hset h1 r (.cells 54 false (RdB nl2 (packB (allBits ops)) (allBits (ops.take i)).length))) q (.cells 30 false (opC o))) r = some (54, RdB nl2 (packB (allBits ops)) (allBits (ops.take i)).length) := blkV_iff.2 ((hset_ne _ _ hqr.symm).trans (hset_at _ _ _))
              with_reducible refine call_ok ?_
              refine get_v hr2 hb8 (by omega) (by omega) (fun hh => ?_) fun hh => ?_
              · rw [hs32_nn] at hh; omega
              · have e5 : numB (((bitsOf (packB (allBits ops))).drop (allBits (ops.take i)).length).take (hs32 ((opNn o : Nat) : Int))) = o.v % 2 ^ opNn o := by
                  rw [hbk, hs32_nn, hsp, pad_mid (by rw [opBits_len]; omega), List.take_of_length_le (by rw [opBits_len]; omega)]
                  unfold opBits
                  rw [if_neg hk, numB_lowBits]
                rw [e5, hs32_nn, hset_comm hqr, hset_hset]
                repeat (first | simp (disch := first | omega | assumption) only [↓reduceIte, go_sem] | with_reducible refine vawp_draw mixed (by kernel_rfl) ?_ | with_reducible first | refine lwV_out ?_ | refine lwV_out0 ?_ | refine And.intro (by omega) ?_ | fail)
                refine .drop q ?_
                repeat (first | simp (disch := first | omega | assumption) only [↓reduceIte, go_sem, f47] | with_reducible refine Gst.now ?_ | with_reducible refine vawp_draw mixed (by kernel_rfl) ?_ | with_reducible first | refine lwV_out ?_ | refine lwV_out0 ?_ | refine And.intro (by omega) ?_ | fail)
                refine ⟨k - 1, by omega, i + 1, by omega, ?_⟩
                repeat (first | simp (disch := first | omega | assumption) only [↓reduceIte, go_sem, f3, f7, f45, f46] | with_reducible refine Gst.now ?_ | with_reducible refine vawp_draw mixed (by kernel_rfl) ?_ | with_reducible first | refine lwV_out ?_ | refine lwV_out0 ?_ | refine And.intro (by omega) ?_ | fail)
                rw [hlen]
            · rename_i hk
              have hk2 : o.kind = 2 := Decidable.not_not.1 hk
              refine .drop q ?_
              rw [hdel_hset hq2]
              repeat (first | simp (disch := first | omega | assumption) only [↓reduceIte, go_sem] | with_reducible refine Gst.now ?_ | with_reducible refine vawp_draw mixed (by kernel_rfl) ?_ | with_reducible first | refine lwV_out ?_ | refine lwV_out0 ?_ | refine And.intro (by omega) ?_ | fail)
              refine vawp_loop (k := opNn o) (fun k ρ h2 => k ≤ opNn o ∧ ρ 3 = .op j 0 ∧ ρ 7 = .op r 0 ∧ ρ 11 = (.sc (.int .u32 ((o.v % 2 ^ opNn o : Nat)))) ∧ ρ 14 = (.sc (.int .i64 ((k : Int) - 1))) ∧ ρ 45 = .isl nl ops.length (ops.flatMap opC) ∧ ρ 46 = (.sc (.int .i64 (ops.length))) ∧ ρ 47 = (.sc (.int .i64 (i))) ∧ h2 = hset h1 r (.cells 54 false (RdB nl2 (packB (allBits ops)) ((allBits (ops.take i)).length + (opNn o - k))))) ?_ ?_
              · repeat (first | simp (disch := first | omega | assumption) only [↓reduceIte, go_sem, f3, f7, f45, f46, f47] | with_reducible refine Gst.now ?_ | with_reducible refine vawp_draw mixed (by kernel_rfl) ?_ | with_reducible first | refine lwV_out ?_ | refine lwV_out0 ?_ | refine And.intro (by omega) ?_ | fail)
                rw [Nat.sub_self]; rfl
              · rintro m ρ2 h2 ⟨hmN, g3, g7, g11, g14, g45, g46, g47, rfl⟩
                repeat (first | simp (disch := first | omega | assumption) only [↓reduceIte, go_sem, g3, g7, g11, g14] | with_reducible refine Gst.now ?_ | with_reducible refine vawp_draw mixed (by kernel_rfl) ?_ | with_reducible first | refine lwV_out ?_ | refine lwV_out0 ?_ | refine And.intro (by omega) ?_ | fail)
                split
                · obtain ⟨m, rfl⟩ : ∃ m', m = m' + 1 := ⟨m - 1, by omega⟩
                  have e0 : ((m + 1 : Nat) : Int) - 1 = (m : Int) := by omega
                  rw [e0] at g14
                  repeat (first | simp (disch := first | omega | assumption) only [↓reduceIte, go_sem, g7] | with_reducible refine Gst.now ?_ | with_reducible refine vawp_draw mixed (by kernel_rfl) ?_ | with_reducible first | refine lwV_out ?_ | refine lwV_out0 ?_ | refine And.intro (by omega) ?_ | fail)
                  with_reducible refine call_ok ?_
                  refine rbit_v (blkV_iff.2 (hset_at _ _ _)) hb8 (by omega) (by omega) (fun hh => absurd hh (by omega)) fun hh => ?_
                  have e6 : (bitsOf (packB (allBits ops))).getD ((allBits (ops.take i)).length + (opNn o - (m + 1))) 0 = o.v / 2 ^ m % 2 := by
                    rw [hbk, hsp, pad_get (by rw [opBits_len]; omega)]
                    unfold opBits
                    rw [if_pos hk2, codeTo_get (by omega), show opNn o - 1 - (opNn o - (m + 1)) = m by omega]
                  have e7 : (allBits (ops.take i)).length + (opNn o - (m + 1)) + 1 = (allBits (ops.take i)).length + (opNn o - m) := by omega
                  have e8 := and1_u32 (x := o.v % 2 ^ opNn o / 2 ^ m) (Nat.lt_of_le_of_lt (Nat.div_le_self _ _) (Nat.lt_of_le_of_lt (Nat.mod_le _ _) o1))
                  rw [mod_bit (by omega)] at e8
                  rw [hset_hset, e6, e7]
                  repeat (first | simp (disch := first | omega | assumption) only [↓reduceIte, go_sem, g11, g14, e8] | with_reducible refine Gst.now ?_ | with_reducible refine vawp_draw mixed (by kernel_rfl) ?_ | with_reducible first | refine lwV_out ?_ | refine lwV_out0 ?_ | refine And.intro (by omega) ?_ | fail)
                  refine ⟨m, by omega, by omega, ?_⟩
                  repeat (first | simp (disch := first | omega | assumption) only [↓reduceIte, go_sem, g3, g7, g11, g45, g46, g47] | with_reducible refine Gst.now ?_ | with_reducible refine vawp_draw mixed (by kernel_rfl) ?_ | with_reducible first | refine lwV_out ?_ | refine lwV_out0 ?_ | refine And.intro (by omega) ?_ | fail)
                · have hm0 : m = 0 := by omega
                  subst hm0
                  repeat (first | simp (disch := first | omega | assumption) only [↓reduceIte, go_sem, g47] | with_reducible refine Gst.now ?_ | with_reducible refine vawp_draw mixed (by kernel_rfl) ?_ | with_reducible first | refine lwV_out ?_ | refine lwV_out0 ?_ | refine And.intro (by omega) ?_ | fail)
                  refine ⟨k - 1, by omega, i + 1, by omega, ?_⟩
                  repeat (first | simp (disch := first | omega | assumption) only [↓reduceIte, go_sem, g3, g7, g45, g46] | with_reducible refine Gst.now ?_ | with_reducible refine vawp_draw mixed (by kernel_rfl) ?_ | with_reducible first | refine lwV_out ?_ | refine lwV_out0 ?_ | refine And.intro (by omega) ?_ | fail)
                  rw [hlen, Nat.sub_zero]
          · have hi : i = ops.length := by omega
            subst hi
            repeat (first | simp (disch := first | omega | assumption) only [↓reduceIte, go_sem, f7] | with_reducible refine Gst.now ?_ | with_reducible refine vawp_draw mixed (by kernel_rfl) ?_ | with_reducible first | refine lwV_out ?_ | refine lwV_out0 ?_ | refine And.intro (by omega) ?_ | fail)
            rw [List.take_length]
            with_reducible refine call_ok ?_
            refine rat_v (blkV_iff.2 (hset_at _ _ _)) ?_
            repeat (first | simp (disch := first | omega | assumption) only [↓reduceIte, go_sem, f3] | with_reducible refine Gst.now ?_ | with_reducible refine vawp_draw mixed (by kernel_rfl) ?_ | with_reducible first | refine lwV_out ?_ | refine lwV_out0 ?_ | refine And.intro (by omega) ?_ | fail)
            have hW5 := (hW.frame (b := .cells 54 false (RdB nl2 (packB (allBits ops)) (allBits ops).length)) hr).1
            with_reducible refine call_ok ?_
            refine len_v hW5 ?_
            repeat (first | simp (disch := first | omega | assumption) only [↓reduceIte, go_sem] | with_reducible refine Gst.now ?_ | with_reducible refine vawp_draw mixed (by kernel_rfl) ?_ | with_reducible first | refine lwV_out ?_ | refine lwV_out0 ?_ | refine And.intro (by omega) ?_ | fail)
            refine hq _ _ ?_
            repeat (first | simp (disch := first | omega | assumption) only [↓reduceIte, go_sem] | with_reducible refine Gst.now ?_ | with_reducible refine vawp_draw mixed (by kernel_rfl) ?_ | with_reducible first | refine lwV_out ?_ | refine lwV_out0 ?_ | refine And.intro (by omega) ?_ | fail)
            exact .now rfl
end
end Go.Proofs.Ytnnemehejldchaa.VBack
