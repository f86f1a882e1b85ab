/- package match and its reference, over the machine of values: the bytes of tokens. -/
import Derived.Test.YtipeglbklhincaaDoorProg
import Derived.Test.YtipeglbklhincaaDoorAbV16
import Derived.Test.YtipeglbklhincaaDoorAbFacts
import Derived.Test.YtipeglbklhincaaDoorAbVG
import Derived.Test.YtipeglbklhincaaDoorAbVRow1
import Derived.Test.YtipeglbklhincaaDoorAbVSame
import Derived.Test.YtipeglbklhincaaDoorAbVMatch
import Derived.KernelRfl
import Derived.Laws.BitsAllLaws
set_option linter.unusedVariables false
set_option linter.unusedSimpArgs false
set_option maxRecDepth 100000
set_option maxHeartbeats 4000000
namespace Go.Proofs.YtipeglbklhincaaDoor.VMatchB
open Go.RowKit Go.Proofs.AbM Go.Proofs.YtipeglbklhincaaDoor.Facts Go.Proofs.YtipeglbklhincaaDoor.VG Go.Proofs.YtipeglbklhincaaDoor.VRow1 Go.Proofs.YtipeglbklhincaaDoor.VSame Go.Proofs.YtipeglbklhincaaDoor.VMatch
attribute [local go_sem] vawp_skip_eq vawp_seq_eq vawp_region_eq vawp_cond_g vawp_block_eq vawp_exit_eq vawp_ret_eq thenV_ret thenV_exit thenV_normal inBlockV_normal inBlockV_ret inBlockV_exit resKV_nil resKV_tmp resKV_cell oneV_one oneV_nil oneV_more initV_nil initV_cons updV_at evv_tmp evv_func evv_global evv_int evv_bool evv_str evv_snil evv_pnil evv_agg ofV3_int ofV3_bool ofV3_str ofV3_snil ofV3_pnil vok_tmp vok_func vok_global vok_int vok_bool vok_str vok_snil vok_pnil vok_agg cloV3_int cloV3_bool cloV3_str cloV3_snil cloV3_pnil voks_nil voks_cons scV_int scV_bool scV_str isBlV_b isBV_t isBV_f lwV_none lwV_sc lwV_agg lwV_tup lwV_isl lwV_own lwV_op lwV_ip lwV_fn lwV_junk vops_nil vops_n vops_s gsN_eq vop dstOk_some dstOk_none pkV_b blkV_set eRead_f eRead_t vLoad_op vLoad_ip vStore_op cells_sc cells_isl cells_own cells_op cells_ip cells_fn cells_agg parts_sc parts_isl parts_own parts_op parts_ip parts_fn parts_agg one_sc one_isl one_own one_op one_ip one_fn vField_op vField_ip ePart_f ePart_t vFieldV_agg vIx_isl vIx_own vIx_op vIx_ip vIxV_agg vIxV_str vLen_str vLen_isl vLen_own vLen_agg bndE_none bndE_int vSlice_isl vSlice_str vBin_add vBin_sub vBin_mul vBin_quo vBin_rem vBin_and vBin_or vBin_xor vBin_andNot vBin_eql vBin_neq vBin_lss vBin_leq vBin_gtr vBin_geq vBin_shr_i8 vBin_shl_i8 vBin_shr_i16 vBin_shl_i16 vBin_shr_i32 vBin_shl_i32 vBin_shr_i64 vBin_shl_i64 vBin_shr_u8 vBin_shl_u8 vBin_shr_u16 vBin_shl_u16 vBin_shr_u32 vBin_shl_u32 vBin_shr_u64 vBin_shl_u64 vBin_seq vBin_sne vBin_isln vBin_opn vBin_ipn ex_sc ex_sc2 ex_sc3 ex_tup calleeV wSc_pb wSc_pi wSc_not wSc_neg wSc_com wSc_min2 wSc_max2 vfold_nil vfold_one vfold_cons vfill_nil vfill_e eFill_s vBuild vBox vAlloc setV_map setV_zs setV_zn setV_s hset_hset eConv_ss vConv_e iv_eq ivI_eq ex_get ex_getI set_iv set_ivI okNil isNilV isSlV hdel_at hset_at List.map_toArray List.map_cons List.map_nil List.nil_append List.cons_append List.append_nil List.toList_toArray List.getElem?_toArray List.getElem_toArray List.getElem_cons_zero List.getElem_cons_succ List.getElem?_cons_zero List.getElem?_cons_succ List.set_cons_zero List.set_cons_succ List.set_set List.length_cons List.length_nil List.length_set List.length_map List.all_cons List.all_nil List.drop_zero List.drop_succ_cons List.take_succ_cons List.take_zero List.flatMap_cons Bool.and_eq_true true_and and_true if_true if_false ite_true ite_false forall_eq' forall_eq exists_eq_left exists_eq_left' exists_eq' Value.bool.injEq Value.int.injEq Value.string.injEq Value.pointer.injEq Option.some.injEq AV.sc.injEq AV.op.injEq AV.ip.injEq AV.own.injEq AV.agg.injEq VB.cells.injEq VB.iter.injEq Prod.mk.injEq decide_eq_true_eq decide_eq_false_iff_not Nat.reduceEqDiff Nat.reduceLT Nat.reduceLeDiff Nat.reduceSub Nat.reduceBEq reduceIte Int.reduceLE Int.reduceLT Int.reduceToNat Int.reduceNeg Int.reduceEq Int.reduceNe Int.cast_ofNat_Int Nat.reduceMul Nat.reduceAdd Nat.reduceDiv Nat.reduceMod Nat.reducePow Int.reduceSub Int.reduceAdd Int.reduceMul Int.reducePow Option.isSome_some Option.isSome_none Option.bind_some Option.map_some Option.map_none Option.toList_some Option.toList_none true_or or_true or_false false_or Bool.not_true Bool.not_false Bool.not_eq_true Bool.false_eq_true Bool.not_not false_implies true_implies implies_true Nat.zero_add Nat.add_zero Nat.mul_one Bool.not_eq_true' Bool.true_eq_false Bool.and_true Bool.true_and Bool.and_false Bool.false_and Bool.or_true Bool.true_or Bool.or_false Bool.false_or Option.isNone_some Option.isNone_none Int.reduceBEq Int.reduceBNe beq_self_eq_true bne_self_eq_false beq_iff_eq not_false_eq_true not_true_eq_false Decidable.not_not bne_iff_ne ne_eq Int.toNat_natCast gt_lt ge_le c_add c_mul c_sub c_addn c_nadd c_muln c_nmul c_subn c_nsub c_divn c_modn c_div c_mod c_tdivn c_tmodn c_tdiv c_tmod c_pow c_nn c_beq c_beqn c_bne c_bnen wr64 wr32 wru64 wru32 wru16 wru8 c_if c_if1 c_if2 c_lt c_le c_eq c_ltn c_len c_nlt c_nle c_eqn m_drop m_take Nat.add_sub_cancel_left Nat.add_sub_cancel Int.reduceTMod Int.reduceTDiv Int.reduceMod Int.reduceDiv isC_some hset_ne hdel_ne hdel_hset hdel_hset_ne blkV_nset blkV_ndel hset_hdel gV_t gV_f isGdV_b isGdV_u isBV_u isGdV_g isBV_gt isBV_gf decide_true decide_false Bool.or_eq_false_iff eq_self Nat.lt_irrefl Int.lt_irrefl Nat.le_refl Int.le_refl
attribute [local go_sem high] vops_pk vops_mv vops_as vops_smv pk_and pk_or pk_gand pk_gor pk_orn pk_gorn
attribute [local go_sem] ag3 sz3 zc3 ik3 ag4 sz4 zc4 ag5 sz5 zc5 ik5 ag9 sz9 zc9 iq9 ag22 sz22 el22 zc22 is22 ag23 sz23 el23 zc23 is23 ag25 sz25 zc25 ik25 ag41 sz41 zc41 eqs41 nes41 bo41 ag44 sz44 zc44 pt44 ag45 sz45 ea45 an45 zc45 bo45 ag46 sz46 el46 zc46 is46 ag47 sz47 ea47 an47 ag49 sz49 ag55 sz55 zc55 ik55 of41_0 fd41_0 of41_1 fd41_1 of41_2 fd41_2 of49_0 fd49_0 of49_1 fd49_1 of49_2 fd49_2 of49_3 fd49_3 eqb neb
section
variable {n : Nat} {h : VH} {K : AV → VH → Prop}
attribute [local go_sem] Nat.zero_le tokC tok_len
theorem rheld_v {a lo hi : Int} (hle : lo ≤ hi) (hK : K (.sc (.int .i64 (max lo (min a hi)))) h) : VC Tryd.prog GL (n + 1) 19 [(.sc (.int .i64 (a))), (.sc (.int .i64 (lo))), (.sc (.int .i64 (hi)))] h K := by
  refine VC_go Tryd.func19 rfl (by decide) Tryd.ntmps19 Tryd.results19 rfl fun Q hq hn => ?_
  repeat (first | (simp (maxSteps := 1000000) only [↓reduceIte, go_sem]) | (simp (maxSteps := 1000000) (disch := first | omega | assumption) only [BB]) | with_reducible refine Gst.now ?_ | with_reducible refine vawp_draw mixed (by kernel_rfl) ?_ | with_reducible first | refine lwV_out ?_ | refine lwV_out0 ?_ | refine lkC_out ?_ | refine And.intro (by omega) ?_ | fail)
  split
  · repeat (first | (simp (maxSteps := 1000000) only [↓reduceIte, go_sem]) | (simp (maxSteps := 1000000) (disch := first | omega | assumption) only [BB]) | with_reducible refine Gst.now ?_ | with_reducible refine vawp_draw mixed (by kernel_rfl) ?_ | with_reducible first | refine lwV_out ?_ | refine lwV_out0 ?_ | refine lkC_out ?_ | refine And.intro (by omega) ?_ | fail)
    split
    · repeat (first | (simp (maxSteps := 1000000) only [↓reduceIte, go_sem]) | (simp (maxSteps := 1000000) (disch := first | omega | assumption) only [BB]) | with_reducible refine Gst.now ?_ | with_reducible refine vawp_draw mixed (by kernel_rfl) ?_ | with_reducible first | refine lwV_out ?_ | refine lwV_out0 ?_ | refine lkC_out ?_ | refine And.intro (by omega) ?_ | fail)
      refine hq _ _ ?_
      repeat (first | (simp (maxSteps := 1000000) only [↓reduceIte, go_sem]) | (simp (maxSteps := 1000000) (disch := first | omega | assumption) only [BB]) | with_reducible refine Gst.now ?_ | with_reducible refine vawp_draw mixed (by kernel_rfl) ?_ | with_reducible first | refine lwV_out ?_ | refine lwV_out0 ?_ | refine lkC_out ?_ | refine And.intro (by omega) ?_ | fail)
      rw [show max lo (min a hi) = lo by omega] at hK
      exact .now hK
    · repeat (first | (simp (maxSteps := 1000000) only [↓reduceIte, go_sem]) | (simp (maxSteps := 1000000) (disch := first | omega | assumption) only [BB]) | with_reducible refine Gst.now ?_ | with_reducible refine vawp_draw mixed (by kernel_rfl) ?_ | with_reducible first | refine lwV_out ?_ | refine lwV_out0 ?_ | refine lkC_out ?_ | refine And.intro (by omega) ?_ | fail)
      refine hq _ _ ?_
      repeat (first | (simp (maxSteps := 1000000) only [↓reduceIte, go_sem]) | (simp (maxSteps := 1000000) (disch := first | omega | assumption) only [BB]) | with_reducible refine Gst.now ?_ | with_reducible refine vawp_draw mixed (by kernel_rfl) ?_ | with_reducible first | refine lwV_out ?_ | refine lwV_out0 ?_ | refine lkC_out ?_ | refine And.intro (by omega) ?_ | fail)
      rw [show max lo (min a hi) = hi by omega] at hK
      exact .now hK
  · repeat (first | (simp (maxSteps := 1000000) only [↓reduceIte, go_sem]) | (simp (maxSteps := 1000000) (disch := first | omega | assumption) only [BB]) | with_reducible refine Gst.now ?_ | with_reducible refine vawp_draw mixed (by kernel_rfl) ?_ | with_reducible first | refine lwV_out ?_ | refine lwV_out0 ?_ | refine lkC_out ?_ | refine And.intro (by omega) ?_ | fail)
    split
    · repeat (first | (simp (maxSteps := 1000000) only [↓reduceIte, go_sem]) | (simp (maxSteps := 1000000) (disch := first | omega | assumption) only [BB]) | with_reducible refine Gst.now ?_ | with_reducible refine vawp_draw mixed (by kernel_rfl) ?_ | with_reducible first | refine lwV_out ?_ | refine lwV_out0 ?_ | refine lkC_out ?_ | refine And.intro (by omega) ?_ | fail)
      refine hq _ _ ?_
      repeat (first | (simp (maxSteps := 1000000) only [↓reduceIte, go_sem]) | (simp (maxSteps := 1000000) (disch := first | omega | assumption) only [BB]) | with_reducible refine Gst.now ?_ | with_reducible refine vawp_draw mixed (by kernel_rfl) ?_ | with_reducible first | refine lwV_out ?_ | refine lwV_out0 ?_ | refine lkC_out ?_ | refine And.intro (by omega) ?_ | fail)
      rw [show max lo (min a hi) = lo by omega] at hK
      exact .now hK
    · repeat (first | (simp (maxSteps := 1000000) only [↓reduceIte, go_sem]) | (simp (maxSteps := 1000000) (disch := first | omega | assumption) only [BB]) | with_reducible refine Gst.now ?_ | with_reducible refine vawp_draw mixed (by kernel_rfl) ?_ | with_reducible first | refine lwV_out ?_ | refine lwV_out0 ?_ | refine lkC_out ?_ | refine And.intro (by omega) ?_ | fail)
      refine hq _ _ ?_
      repeat (first | (simp (maxSteps := 1000000) only [↓reduceIte, go_sem]) | (simp (maxSteps := 1000000) (disch := first | omega | assumption) only [BB]) | with_reducible refine Gst.now ?_ | with_reducible refine vawp_draw mixed (by kernel_rfl) ?_ | with_reducible first | refine lwV_out ?_ | refine lwV_out0 ?_ | refine lkC_out ?_ | refine And.intro (by omega) ?_ | fail)
      rw [show max lo (min a hi) = a by omega] at hK
      exact .now hK
theorem rbytes_v {nl : Bool} {l : Nat} {ts : List TokV} (hl : l = ts.length) (hb : ts.length ≤ 140737488355328) (hK : K (.sc (.int .i64 ((bytesT ts : Nat)))) h) : VC Tryd.prog GL (n + 2) 13 [.isl nl l (ts.flatMap tokC)] h K := by
  refine VC_go Tryd.func13 rfl (by decide) Tryd.ntmps13 Tryd.results13 rfl fun Q hq hn => ?_
  subst hl
  repeat (first | (simp (maxSteps := 1000000) only [↓reduceIte, go_sem]) | (simp (maxSteps := 1000000) (disch := first | omega | assumption) only [BB]) | with_reducible refine Gst.now ?_ | with_reducible refine vawp_draw mixed (by kernel_rfl) ?_ | with_reducible first | refine lwV_out ?_ | refine lwV_out0 ?_ | refine lkC_out ?_ | refine And.intro (by omega) ?_ | fail)
  refine vawp_loop (k := ts.length) (fun d ρ h1 => ∃ i : Nat, d + i = ts.length ∧ ρ 0 = .isl nl ts.length (ts.flatMap tokC) ∧ ρ 3 = (.sc (.int .i64 ((bytesT (ts.take i) : Nat)))) ∧ ρ 4 = (.sc (.int .i64 ((i : Nat)))) ∧ h1 = h) ?_ ?_
  · refine ⟨0, by omega, ?_⟩
    repeat (first | (simp (maxSteps := 1000000) only [↓reduceIte, go_sem]) | (simp (maxSteps := 1000000) (disch := first | omega | assumption) only [BB]) | with_reducible refine Gst.now ?_ | with_reducible refine vawp_draw mixed (by kernel_rfl) ?_ | with_reducible first | refine lwV_out ?_ | refine lwV_out0 ?_ | refine lkC_out ?_ | refine And.intro (by omega) ?_ | fail)
    rfl
  · rintro d ρ h1 ⟨i, hd, g0, g3, g4, rfl⟩
    by_cases hi : i < ts.length
    · have e1 := eq_true hi
      have hle := bytesT_le (ts.take i)
      rw [List.length_take] at hle
      have htk := bytesT_take hi
      have hg : (ts.flatMap tokC)[i * 3 + 1]? = some (.sc (.int .i64 ((ts.getD i default).tn))) := by
        have h3 := tok_at ts i hi
        have h4 : (((ts.flatMap tokC).drop (i * 3)).take 3)[1]? = (tokC (ts.getD i default))[1]? := by rw [h3]
        rw [List.getElem?_take_of_lt (by omega), List.getElem?_drop] at h4
        exact h4
      generalize ts.getD i default = t at *
      obtain ⟨tl, tn, td⟩ := t
      have e4 := hg
      repeat (first | (simp (maxSteps := 1000000) only [↓reduceIte, go_sem, g0, g3, g4, e1, e4]) | (simp (maxSteps := 1000000) (disch := first | omega | assumption) only [BB, g0, g3, g4, e1, e4]) | with_reducible refine Gst.now ?_ | with_reducible refine vawp_draw mixed (by kernel_rfl) ?_ | with_reducible first | refine lwV_out ?_ | refine lwV_out0 ?_ | refine lkC_out ?_ | refine And.intro (by omega) ?_ | fail)
      split
      · rename_i h0
        repeat (first | (simp (maxSteps := 1000000) only [↓reduceIte, go_sem, g0, g3, g4, e1, e4]) | (simp (maxSteps := 1000000) (disch := first | omega | assumption) only [BB, g0, g3, g4, e1, e4]) | with_reducible refine Gst.now ?_ | with_reducible refine vawp_draw mixed (by kernel_rfl) ?_ | with_reducible first | refine lwV_out ?_ | refine lwV_out0 ?_ | refine lkC_out ?_ | refine And.intro (by omega) ?_ | fail)
        refine ⟨d - 1, by omega, i + 1, by omega, ?_⟩
        repeat (first | (simp (maxSteps := 1000000) only [↓reduceIte, go_sem, g0, g3, g4, e1, e4]) | (simp (maxSteps := 1000000) (disch := first | omega | assumption) only [BB, g0, g3, g4, e1, e4]) | with_reducible refine Gst.now ?_ | with_reducible refine vawp_draw mixed (by kernel_rfl) ?_ | with_reducible first | refine lwV_out ?_ | refine lwV_out0 ?_ | refine lkC_out ?_ | refine And.intro (by omega) ?_ | fail)
        rw [htk, tokB]
        simp [h0]
      · rename_i h0
        repeat (first | (simp (maxSteps := 1000000) only [↓reduceIte, go_sem, g0, g3, g4, e1, e4]) | (simp (maxSteps := 1000000) (disch := first | omega | assumption) only [BB, g0, g3, g4, e1, e4]) | with_reducible refine Gst.now ?_ | with_reducible refine vawp_draw mixed (by kernel_rfl) ?_ | with_reducible first | refine lwV_out ?_ | refine lwV_out0 ?_ | refine lkC_out ?_ | refine And.intro (by omega) ?_ | fail)
        refine call_ok (rheld_v (a := tn) (lo := 0) (hi := 258) (by decide) ?_)
        repeat (first | (simp (maxSteps := 1000000) only [↓reduceIte, go_sem, g0, g3, g4, e1, e4]) | (simp (maxSteps := 1000000) (disch := first | omega | assumption) only [BB, g0, g3, g4, e1, e4]) | with_reducible refine Gst.now ?_ | with_reducible refine vawp_draw mixed (by kernel_rfl) ?_ | with_reducible first | refine lwV_out ?_ | refine lwV_out0 ?_ | refine lkC_out ?_ | refine And.intro (by omega) ?_ | fail)
        refine ⟨d - 1, by omega, i + 1, by omega, ?_⟩
        repeat (first | (simp (maxSteps := 1000000) only [↓reduceIte, go_sem, g0, g3, g4, e1, e4]) | (simp (maxSteps := 1000000) (disch := first | omega | assumption) only [BB, g0, g3, g4, e1, e4]) | with_reducible refine Gst.now ?_ | with_reducible refine vawp_draw mixed (by kernel_rfl) ?_ | with_reducible first | refine lwV_out ?_ | refine lwV_out0 ?_ | refine lkC_out ?_ | refine And.intro (by omega) ?_ | fail)
        rw [htk, tokB, if_neg h0, Int.natCast_add]
        congr 1
        simp only
        omega
    · have e1 := eq_false hi
      have hii : i = ts.length := by omega
      rw [hii, List.take_length] at g3
      repeat (first | (simp (maxSteps := 1000000) only [↓reduceIte, go_sem, g0, g3, g4, e1]) | (simp (maxSteps := 1000000) (disch := first | omega | assumption) only [BB, g0, g3, g4, e1]) | with_reducible refine Gst.now ?_ | with_reducible refine vawp_draw mixed (by kernel_rfl) ?_ | with_reducible first | refine lwV_out ?_ | refine lwV_out0 ?_ | refine lkC_out ?_ | refine And.intro (by omega) ?_ | fail)
      refine hq _ _ ?_
      repeat (first | (simp (maxSteps := 1000000) only [↓reduceIte, go_sem, g0, g3, g4, e1]) | (simp (maxSteps := 1000000) (disch := first | omega | assumption) only [BB, g0, g3, g4, e1]) | with_reducible refine Gst.now ?_ | with_reducible refine vawp_draw mixed (by kernel_rfl) ?_ | with_reducible first | refine lwV_out ?_ | refine lwV_out0 ?_ | refine lkC_out ?_ | refine And.intro (by omega) ?_ | fail)
      exact .now hK
/-! ### the bytes -/
def ckT (t : TokV) (m : Nat) : Nat := if t.tn < 3 ∨ 258 < t.tn ∨ t.td < 1 ∨ 32768 < t.td then 23 else if (m : Int) < t.td then 35 else 0
def copyN (out : List Nat) (d : Nat) : Nat → List Nat
  | 0 => out
  | m + 1 => copyN out d m ++ [(copyN out d m).getD ((copyN out d m).length - d) 0]
theorem copyN_len (out : List Nat) (d m : Nat) : (copyN out d m).length = out.length + m := by
  induction m with
  | zero => rfl
  | succ m ih => rw [copyN, List.length_append, ih]; rfl
def expT : List TokV → Int → List Nat → Nat × List Nat
  | [], _, out => (0, out)
  | t :: ts, most, out =>
    if t.tn = 0 then (if most ≤ (out.length : Int) then (6, []) else expT ts most (out ++ [t.tl]))
    else if ckT t out.length ≠ 0 then (ckT t out.length, [])
    else if most - (out.length : Int) < t.tn then (6, []) else expT ts most (copyN out t.td.toNat t.tn.toNat)
theorem drop_getT {ts : List TokV} {i : Nat} (hi : i < ts.length) : ts.drop i = ts.getD i default :: ts.drop (i + 1) := by
  rw [List.drop_eq_getElem_cons hi, List.getD_eq_getElem?_getD, List.getElem?_eq_getElem hi]; rfl
theorem mcheck_v {t : TokV} {m : Nat} (hK : K (.sc (.int .i64 ((ckT t m : Nat)))) h) : VC Tryd.prog GL (n + 1) 18 [.agg (tokC t), (.sc (.int .i64 ((m : Nat))))] h K := by
  refine VC_go Tryd.func18 rfl (by decide) Tryd.ntmps18 Tryd.results18 rfl fun Q hq hn => ?_
  obtain ⟨tl, tn, td⟩ := t
  repeat (first | (simp (maxSteps := 1000000) only [↓reduceIte, go_sem]) | (simp (maxSteps := 1000000) (disch := first | omega | assumption) only [BB]) | with_reducible refine Gst.now ?_ | with_reducible refine vawp_draw mixed (by kernel_rfl) ?_ | with_reducible first | refine lwV_out ?_ | refine lwV_out0 ?_ | refine lkC_out ?_ | refine And.intro (by omega) ?_ | fail)
  intro z hz
  repeat (first | (simp (maxSteps := 1000000) only [↓reduceIte, go_sem]) | (simp (maxSteps := 1000000) (disch := first | omega | assumption) only [BB]) | with_reducible refine vawp_draw mixed (by kernel_rfl) ?_ | with_reducible first | refine lwV_out ?_ | refine lwV_out0 ?_ | refine lkC_out ?_ | refine And.intro (by omega) ?_ | fail)
  refine .box 2 z hz rfl (.now ?_)
  try simp only [vawp_seq_eq, vawp_block_eq]
  with_reducible refine vawp_regq ?_
  simp only [List.toList_toArray]
  repeat (first | (apply vopsQ_pk; (case hd => rfl); (case h1 => simp (disch := first | omega | assumption) only [↓reduceIte, go_sem]); (case h2 => simp (disch := first | omega | assumption) only [↓reduceIte, go_sem]); (case h3 => simp (disch := first | omega | assumption) only [↓reduceIte, go_sem]); (case hb => simp (disch := first | omega | assumption) only [↓reduceIte, go_sem]); (try simp (disch := first | omega | assumption) only [↓reduceIte, go_sem])) | (apply vopsQ_n; (case hd => rfl); (case hq => (intro K' hk'; repeat (first | simp (maxSteps := 4000000) (disch := first | omega | assumption) only [↓reduceIte, go_sem] | with_reducible refine Gst.now ?_ | with_reducible refine vawp_draw mixed (by kernel_rfl) ?_ | with_reducible first | refine lwV_out ?_ | refine lwV_out0 ?_ | refine lkC_out ?_ | refine And.intro (by omega) ?_ | fail); exact hk'))) | (apply vopsQ_gt; (case hd => rfl); (case h1 => rfl); (case h2 => rfl); (case h3 => simp (disch := first | omega | assumption) only [↓reduceIte, go_sem]); (case hq => (intro K' hk'; repeat (first | simp (maxSteps := 4000000) (disch := first | omega | assumption) only [↓reduceIte, go_sem] | with_reducible refine Gst.now ?_ | with_reducible refine vawp_draw mixed (by kernel_rfl) ?_ | with_reducible first | refine lwV_out ?_ | refine lwV_out0 ?_ | refine lkC_out ?_ | refine And.intro (by omega) ?_ | fail); exact hk'))) | (apply vopsQ_gf'; (case hd => rfl); (case h1 => rfl); (case h2 => rfl); (case h3 => simp (disch := first | omega | assumption) only [↓reduceIte, go_sem])) | (apply vopsQ_gj; (case hd => rfl); (case h1 => rfl); (case h2 => rfl); (case h3 => simp (disch := first | omega | assumption) only [↓reduceIte, go_sem])) | (apply vopsQ_gpk; (case hd => rfl); (case h1 => rfl); (case h2 => rfl); (case h3 => simp (disch := first | omega | assumption) only [↓reduceIte, go_sem]); (case k1 => simp (disch := first | omega | assumption) only [↓reduceIte, go_sem]); (case k2 => simp (disch := first | omega | assumption) only [↓reduceIte, go_sem]); (case k3 => simp (disch := first | omega | assumption) only [↓reduceIte, go_sem]); (case hb => (intro hc; (try simp (disch := first | omega | assumption) only [↓reduceIte, go_sem] at hc); simp (disch := first | omega | assumption) only [↓reduceIte, go_sem, hc])); (try simp (disch := first | omega | assumption) only [↓reduceIte, go_sem])) | (apply vopsQ_gu; (case hd => rfl); (case h1 => rfl); (case h2 => rfl); (case h3 => simp (disch := first | omega | assumption) only [↓reduceIte, go_sem]); (case hq => (intro hc K' hk'; (try simp (disch := first | omega | assumption) only [↓reduceIte, go_sem] at hc); repeat (first | simp (maxSteps := 4000000) (disch := first | omega | assumption) only [↓reduceIte, go_sem, hc] | with_reducible refine Gst.now ?_ | with_reducible refine vawp_draw mixed (by kernel_rfl) ?_ | with_reducible first | refine lwV_out ?_ | refine lwV_out0 ?_ | refine lkC_out ?_ | refine And.intro (by omega) ?_ | fail); exact hk')); (try simp (disch := first | omega | assumption) only [↓reduceIte, go_sem])) | fail)
  simp only [vopsQ_nil]
  repeat (first | (simp (maxSteps := 1000000) only [↓reduceIte, go_sem]) | (simp (maxSteps := 1000000) (disch := first | omega | assumption) only [BB]) | with_reducible refine Gst.now ?_ | with_reducible refine vawp_draw mixed (by kernel_rfl) ?_ | with_reducible first | refine lwV_out ?_ | refine lwV_out0 ?_ | refine lkC_out ?_ | refine And.intro (by omega) ?_ | fail)
  split
  · rename_i hc
    repeat (first | (simp (maxSteps := 1000000) only [↓reduceIte, go_sem]) | (simp (maxSteps := 1000000) (disch := first | omega | assumption) only [BB]) | with_reducible refine Gst.now ?_ | with_reducible refine vawp_draw mixed (by kernel_rfl) ?_ | with_reducible first | refine lwV_out ?_ | refine lwV_out0 ?_ | refine lkC_out ?_ | refine And.intro (by omega) ?_ | fail)
    refine hq _ _ ?_
    repeat (first | (simp (maxSteps := 1000000) only [↓reduceIte, go_sem]) | (simp (maxSteps := 1000000) (disch := first | omega | assumption) only [BB]) | with_reducible refine Gst.now ?_ | with_reducible refine vawp_draw mixed (by kernel_rfl) ?_ | with_reducible first | refine lwV_out ?_ | refine lwV_out0 ?_ | refine lkC_out ?_ | refine And.intro (by omega) ?_ | fail)
    unfold ckT at hK
    rw [if_pos (by simpa [or_assoc] using hc)] at hK
    exact .now hK
  · rename_i hc
    unfold ckT at hK
    rw [if_neg (by simpa [and_assoc] using hc)] at hK
    repeat (first | (simp (maxSteps := 1000000) only [↓reduceIte, go_sem]) | (simp (maxSteps := 1000000) (disch := first | omega | assumption) only [BB]) | with_reducible refine Gst.now ?_ | with_reducible refine vawp_draw mixed (by kernel_rfl) ?_ | with_reducible first | refine lwV_out ?_ | refine lwV_out0 ?_ | refine lkC_out ?_ | refine And.intro (by omega) ?_ | fail)
    split
    · rename_i hd
      repeat (first | (simp (maxSteps := 1000000) only [↓reduceIte, go_sem]) | (simp (maxSteps := 1000000) (disch := first | omega | assumption) only [BB]) | with_reducible refine Gst.now ?_ | with_reducible refine vawp_draw mixed (by kernel_rfl) ?_ | with_reducible first | refine lwV_out ?_ | refine lwV_out0 ?_ | refine lkC_out ?_ | refine And.intro (by omega) ?_ | fail)
      refine hq _ _ ?_
      repeat (first | (simp (maxSteps := 1000000) only [↓reduceIte, go_sem]) | (simp (maxSteps := 1000000) (disch := first | omega | assumption) only [BB]) | with_reducible refine Gst.now ?_ | with_reducible refine vawp_draw mixed (by kernel_rfl) ?_ | with_reducible first | refine lwV_out ?_ | refine lwV_out0 ?_ | refine lkC_out ?_ | refine And.intro (by omega) ?_ | fail)
      rw [if_pos (by simpa using hd)] at hK
      exact .now hK
    · rename_i hd
      repeat (first | (simp (maxSteps := 1000000) only [↓reduceIte, go_sem]) | (simp (maxSteps := 1000000) (disch := first | omega | assumption) only [BB]) | with_reducible refine Gst.now ?_ | with_reducible refine vawp_draw mixed (by kernel_rfl) ?_ | with_reducible first | refine lwV_out ?_ | refine lwV_out0 ?_ | refine lkC_out ?_ | refine And.intro (by omega) ?_ | fail)
      refine hq _ _ ?_
      repeat (first | (simp (maxSteps := 1000000) only [↓reduceIte, go_sem]) | (simp (maxSteps := 1000000) (disch := first | omega | assumption) only [BB]) | with_reducible refine Gst.now ?_ | with_reducible refine vawp_draw mixed (by kernel_rfl) ?_ | with_reducible first | refine lwV_out ?_ | refine lwV_out0 ?_ | refine lkC_out ?_ | refine And.intro (by omega) ?_ | fail)
      rw [if_neg (by simpa using hd)] at hK
      exact .now hK
end
end Go.Proofs.YtipeglbklhincaaDoor.VMatchB
