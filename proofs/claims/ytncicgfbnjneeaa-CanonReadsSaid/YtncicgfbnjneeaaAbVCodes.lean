/- codes from their lengths, over the machine of values. -/
import Derived.Test.YtncicgfbnjneeaaProg
import Derived.Test.YtncicgfbnjneeaaAbV16
import Derived.Test.YtncicgfbnjneeaaAbFacts
import Derived.Test.YtncicgfbnjneeaaAbBitsM
import Derived.Test.YtncicgfbnjneeaaAbVBits
import Derived.Test.YtncicgfbnjneeaaAbVBitsT
import Derived.Test.YtncicgfbnjneeaaAbVLen
import Derived.Test.YtncicgfbnjneeaaAbVCheck
import Derived.KernelRfl
import Derived.Laws.BitsAllLaws
set_option linter.unusedVariables false
set_option linter.unusedSimpArgs false
set_option maxRecDepth 100000
set_option maxHeartbeats 4000000
namespace Go.Proofs.Ytncicgfbnjneeaa.VCodes
open Go.RowKit Go.Proofs.AbM Go.Proofs.Ytncicgfbnjneeaa.Facts Go.Proofs.Ytncicgfbnjneeaa.BitsM Go.Proofs.Ytncicgfbnjneeaa.VBits Go.Proofs.Ytncicgfbnjneeaa.VBitsT Go.Proofs.Ytncicgfbnjneeaa.VLen Go.Proofs.Ytncicgfbnjneeaa.VCheck
attribute [local go_sem] vawp_skip_eq vawp_seq_eq vawp_region_eq vawp_cond_g vawp_block_eq vawp_exit_eq vawp_ret_eq thenV_ret thenV_exit thenV_normal inBlockV_normal inBlockV_ret inBlockV_exit resKV_nil resKV_tmp resKV_cell oneV_one oneV_nil oneV_more initV_nil initV_cons updV_at evv_tmp evv_func evv_global evv_int evv_bool evv_str evv_snil evv_pnil evv_agg ofV3_int ofV3_bool ofV3_str ofV3_snil ofV3_pnil vok_tmp vok_func vok_global vok_int vok_bool vok_str vok_snil vok_pnil vok_agg cloV3_int cloV3_bool cloV3_str cloV3_snil cloV3_pnil voks_nil voks_cons scV_int scV_bool scV_str isBlV_b isBV_t isBV_f lwV_none lwV_sc lwV_agg lwV_tup lwV_isl lwV_own lwV_op lwV_ip lwV_fn lwV_junk vops_nil vops_n vops_s gsN_eq vop dstOk_some dstOk_none pkV_b blkV_set eRead_f eRead_t vLoad_op vLoad_ip vStore_op cells_sc cells_isl cells_own cells_op cells_ip cells_fn cells_agg parts_sc parts_isl parts_own parts_op parts_ip parts_fn parts_agg one_sc one_isl one_own one_op one_ip one_fn vField_op vField_ip ePart_f ePart_t vFieldV_agg vIx_isl vIx_own vIx_op vIx_ip vIxV_agg vIxV_str vLen_str vLen_isl vLen_own vLen_agg bndE_none bndE_int vSlice_isl vSlice_str vBin_add vBin_sub vBin_mul vBin_quo vBin_rem vBin_and vBin_or vBin_xor vBin_andNot vBin_eql vBin_neq vBin_lss vBin_leq vBin_gtr vBin_geq vBin_shr_i8 vBin_shl_i8 vBin_shr_i16 vBin_shl_i16 vBin_shr_i32 vBin_shl_i32 vBin_shr_i64 vBin_shl_i64 vBin_shr_u8 vBin_shl_u8 vBin_shr_u16 vBin_shl_u16 vBin_shr_u32 vBin_shl_u32 vBin_shr_u64 vBin_shl_u64 vBin_seq vBin_sne vBin_isln vBin_opn vBin_ipn ex_sc ex_sc2 ex_sc3 ex_tup calleeV wSc_pb wSc_pi wSc_not wSc_neg wSc_com wSc_min2 wSc_max2 vfold_nil vfold_one vfold_cons vfill_nil vfill_e eFill_s vBuild vBox vAlloc setV_map setV_zs setV_zn setV_s hset_hset eConv_ss vConv_e iv_eq ivI_eq ex_get ex_getI set_iv set_ivI okNil isNilV isSlV hdel_at hset_at List.map_toArray List.map_cons List.map_nil List.nil_append List.cons_append List.append_nil List.toList_toArray List.getElem?_toArray List.getElem_toArray List.getElem_cons_zero List.getElem_cons_succ List.getElem?_cons_zero List.getElem?_cons_succ List.set_cons_zero List.set_cons_succ List.set_set List.length_cons List.length_nil List.length_set List.length_map List.all_cons List.all_nil List.drop_zero List.drop_succ_cons List.take_succ_cons List.take_zero List.flatMap_cons Bool.and_eq_true true_and and_true if_true if_false ite_true ite_false forall_eq' forall_eq exists_eq_left exists_eq_left' exists_eq' Value.bool.injEq Value.int.injEq Value.string.injEq Value.pointer.injEq Option.some.injEq AV.sc.injEq AV.op.injEq AV.ip.injEq AV.own.injEq AV.agg.injEq VB.cells.injEq VB.iter.injEq Prod.mk.injEq decide_eq_true_eq decide_eq_false_iff_not Nat.reduceEqDiff Nat.reduceLT Nat.reduceLeDiff Nat.reduceSub Nat.reduceBEq reduceIte Int.reduceLE Int.reduceLT Int.reduceToNat Int.reduceNeg Int.reduceEq Int.reduceNe Int.cast_ofNat_Int Nat.reduceMul Nat.reduceAdd Nat.reduceDiv Nat.reduceMod Nat.reducePow Int.reduceSub Int.reduceAdd Int.reduceMul Int.reducePow Option.isSome_some Option.isSome_none Option.bind_some Option.map_some Option.map_none Option.toList_some Option.toList_none true_or or_true or_false false_or Bool.not_true Bool.not_false Bool.not_eq_true Bool.false_eq_true Bool.not_not false_implies true_implies implies_true Nat.zero_add Nat.add_zero Nat.mul_one Bool.not_eq_true' Bool.true_eq_false Bool.and_true Bool.true_and Bool.and_false Bool.false_and Bool.or_true Bool.true_or Bool.or_false Bool.false_or Option.isNone_some Option.isNone_none Int.reduceBEq Int.reduceBNe beq_self_eq_true bne_self_eq_false beq_iff_eq not_false_eq_true not_true_eq_false Decidable.not_not bne_iff_ne ne_eq Int.toNat_natCast gt_lt ge_le c_add c_mul c_sub c_addn c_nadd c_muln c_nmul c_subn c_nsub c_divn c_modn c_div c_mod c_tdivn c_tmodn c_tdiv c_tmod c_pow c_nn c_beq c_beqn c_bne c_bnen wr64 wr32 wru64 wru32 wru16 wru8 c_if c_if1 c_if2 c_lt c_le c_eq c_ltn c_len c_nlt c_nle c_eqn m_drop m_take Nat.add_sub_cancel_left Nat.add_sub_cancel Int.reduceTMod Int.reduceTDiv Int.reduceMod Int.reduceDiv isC_some hset_ne hdel_ne hdel_hset hdel_hset_ne blkV_nset blkV_ndel hset_hdel gV_t gV_f isGdV_b isGdV_u isBV_u isGdV_g isBV_gt isBV_gf decide_true decide_false Bool.or_eq_false_iff eq_self Nat.lt_irrefl Int.lt_irrefl Nat.le_refl Int.le_refl
attribute [local go_sem high] vops_pk vops_mv vops_as vops_smv pk_and pk_or pk_gand pk_gor pk_orn pk_gorn
attribute [local go_sem] ag3 sz3 zc3 ik3 ag4 sz4 zc4 ag5 sz5 zc5 ik5 ag22 sz22 el22 zc22 is22 ag24 sz24 el24 zc24 is24 ag25 sz25 zc25 ik25 ag30 sz30 zc30 ik30 ag31 sz31 zc31 pt31 ag38 sz38 el38 zc38 is38 ag39 sz39 zc39 pt39 ag49 sz49 zc49 bo49 ag54 sz54 ea54 an54 zc54 bo54 ag58 sz58 ea58 an58 zc58 bo58 ag60 sz60 zc60 bo60 ag62 sz62 zc62 bo62 ag68 sz68 zc68 pt68 ag72 sz72 zc72 ag73 sz73 ea73 an73 zc73 bo73 of49_0 fd49_0 of49_1 fd49_1 of60_0 fd60_0 of60_1 fd60_1 of60_2 fd60_2 of60_3 fd60_3 of60_4 fd60_4 of62_0 fd62_0 of62_1 fd62_1 eqb neb
section
variable {n : Nat} {h : VH} {K : AV → VH → Prop}
attribute [local go_sem] Nat.zero_le
def firstL (ls : List Nat) : Nat → Nat
  | 0 => 0
  | l + 1 => (firstL ls l + (cntL ls).getD l 0) * 2
theorem first_sum (ls : List Nat) : ∀ l, l ≤ 15 → firstL ls l * 2 ^ (15 - l) = sumF (wC ls) l
  | 0, _ => by simp [firstL, sumF]
  | l + 1, h => by
    have ih := first_sum ls l (by omega)
    rw [firstL, sumF, ← ih, wC, show 15 - l = (15 - (l + 1)) + 1 by omega, Nat.pow_succ]
    generalize 2 ^ (15 - (l + 1)) = P
    rw [Nat.mul_assoc, Nat.mul_comm 2 P, Nat.add_mul]
theorem sumF_mono {f : Nat → Nat} {a : Nat} : ∀ b, a ≤ b → sumF f a ≤ sumF f b
  | 0, h => by rw [show a = 0 by omega]; exact Nat.le_refl _
  | b + 1, h => by
    by_cases hb : a ≤ b
    · exact Nat.le_trans (sumF_mono b hb) (Nat.le_add_right ..)
    · rw [show a = b + 1 by omega]; exact Nat.le_refl _
theorem first_le {ls : List Nat} (h15 : ∀ x ∈ ls, x ≤ 15) (hs : sumL ls ≤ 32768) {l : Nat} (hl : l ≤ 15) : firstL ls l + (cntL ls).getD l 0 ≤ 2 ^ l := by
  have h1 := first_sum ls l hl
  have h2 : sumF (wC ls) (l + 1) ≤ 32768 := Nat.le_trans (sumF_mono 16 (by omega)) (by rw [sum_eq ls h15]; exact hs)
  rw [sumF, ← h1, wC, ← Nat.add_mul] at h2
  have h3 : (32768 : Nat) = 2 ^ l * 2 ^ (15 - l) := by rw [← Nat.pow_add, show l + (15 - l) = 15 by omega]
  rw [h3] at h2
  exact Nat.le_of_mul_le_mul_right h2 (Nat.pow_pos (by decide))
theorem first_lt {ls : List Nat} (h15 : ∀ x ∈ ls, x ≤ 15) (hs : sumL ls ≤ 32768) {l : Nat} (hl : l ≤ 15) : firstL ls l + (cntL ls).getD l 0 ≤ 32768 :=
  Nat.le_trans (first_le h15 hs hl) (Nat.pow_le_pow_right (by omega) hl : 2 ^ l ≤ 2 ^ 15)
def firstsL (ls : List Nat) : List Nat := (List.range 16).map (firstL ls)
theorem firsts_get (ls : List Nat) (i : Nat) (hi : i < 16) : (firstsL ls).getD i 0 = firstL ls i := by
  unfold firstsL
  rw [List.getD_eq_getElem?_getD, List.getElem?_map, List.getElem?_range hi]; rfl
theorem firsts_len (ls : List Nat) : (firstsL ls).length = 16 := by simp [firstsL]
theorem firsts_v {nl : Bool} {l : Nat} {ls : List Nat} (hl : l = ls.length) (hb : ls.length ≤ 288) (h15 : ∀ x ∈ ls, x ≤ 15) (hs : sumL ls ≤ 32768) (hK : K (.agg ((firstsL ls).map (iv .u32))) h) : VC Try.prog GL (n + 2) 22 [.isl nl l (ls.map (iv .i64))] h K := by
  refine VC_go Try.func22 rfl (by decide) Try.ntmps22 Try.results22 rfl fun Q hq hn => ?_
  subst hl
  repeat (first | (simp (maxSteps := 1000000) only [↓reduceIte, go_sem]) | (simp (maxSteps := 1000000) (disch := first | omega | assumption) only [BB]) | with_reducible refine Gst.now ?_ | with_reducible refine vawp_draw mixed (by kernel_rfl) ?_ | with_reducible first | refine lwV_out ?_ | refine lwV_out0 ?_ | refine lkC_out ?_ | refine And.intro (by omega) ?_ | fail)
  intro j2 hj2
  repeat (first | (simp (maxSteps := 1000000) only [↓reduceIte, go_sem]) | (simp (maxSteps := 1000000) (disch := first | omega | assumption) only [BB]) | with_reducible refine Gst.now ?_ | with_reducible refine vawp_draw mixed (by kernel_rfl) ?_ | with_reducible first | refine lwV_out ?_ | refine lwV_out0 ?_ | refine lkC_out ?_ | refine And.intro (by omega) ?_ | fail)
  intro j3 hj3
  try simp (disch := first | omega | assumption) only [go_sem, hset_none, hdel_none] at hj3
  try simp (disch := first | omega | assumption) only [hset_none, hdel_none] at hj3
  repeat (first | (simp (maxSteps := 1000000) only [↓reduceIte, go_sem]) | (simp (maxSteps := 1000000) (disch := first | omega | assumption) only [BB]) | with_reducible refine Gst.now ?_ | with_reducible refine vawp_draw mixed (by kernel_rfl) ?_ | with_reducible first | refine lwV_out ?_ | refine lwV_out0 ?_ | refine lkC_out ?_ | refine And.intro (by omega) ?_ | fail)
  with_reducible refine call_ok ?_
  refine counts_v rfl hb h15 ?_
  have hcl := cntL_len ls
  have e6 : ((cntL ls).map (iv .i64)).length = 16 := by rw [List.length_map, hcl]
  have e7 : ((cntL ls).map (iv .i64)).all AV.one = true := by rw [List.all_map]; exact List.all_eq_true.2 fun _ _ => rfl
  have hflt := fun l (hl : l ≤ 15) => first_lt h15 hs hl
  have hfs : ∀ l, firstL ls (l + 1) = (firstL ls l + (cntL ls).getD l 0) * 2 := fun _ => rfl
  have hfl := firsts_len ls
  have hfg := firsts_get ls
  generalize hC : cntL ls = C at *
  repeat (first | (simp (maxSteps := 1000000) only [↓reduceIte, go_sem, e6, e7]) | (simp (maxSteps := 1000000) (disch := first | omega | assumption) only [BB, e6, e7]) | with_reducible refine Gst.now ?_ | with_reducible refine vawp_draw mixed (by kernel_rfl) ?_ | with_reducible first | refine lwV_out ?_ | refine lwV_out0 ?_ | refine lkC_out ?_ | refine And.intro (by omega) ?_ | fail)
  intro j4 hj4
  repeat (first | (simp (maxSteps := 1000000) only [↓reduceIte, go_sem, e6, e7]) | (simp (maxSteps := 1000000) (disch := first | omega | assumption) only [BB, e6, e7]) | with_reducible refine vawp_draw mixed (by kernel_rfl) ?_ | with_reducible first | refine lwV_out ?_ | refine lwV_out0 ?_ | refine lkC_out ?_ | refine And.intro (by omega) ?_ | fail)
  refine .box 4 j4 hj4 rfl (.now ?_)
  repeat (first | (simp (maxSteps := 1000000) only [↓reduceIte, go_sem, e6, e7]) | (simp (maxSteps := 1000000) (disch := first | omega | assumption) only [BB, e6, e7]) | with_reducible refine Gst.now ?_ | with_reducible refine vawp_draw mixed (by kernel_rfl) ?_ | with_reducible first | refine lwV_out ?_ | refine lwV_out0 ?_ | refine lkC_out ?_ | refine And.intro (by omega) ?_ | fail)
  refine vawp_loop (k := 16) (fun c ρ h1 => ∃ (i : Nat) (D : List Nat), c + i = 16 ∧ i ≤ 15 ∧ ρ 2 = .op j2 0 ∧ ρ 3 = .op j3 0 ∧ ρ 4 = .ip (C.map (iv .i64)) 0 ∧ ρ 5 = (.sc (.int .i64 ((i + 1 : Nat)))) ∧ D.length = 16 ∧ (∀ m, m ≤ i → D.getD m 0 = firstL ls m) ∧ h1 = hset (hset h j2 (.cells 54 false ((List.replicate 16 0).map (iv .u32)))) j3 (.cells 54 false (D.map (iv .u32)))) ?_ ?_
  · refine ⟨0, List.replicate 16 0, by omega, ?_⟩
    repeat (first | (simp (maxSteps := 1000000) only [↓reduceIte, go_sem, e6, e7]) | (simp (maxSteps := 1000000) (disch := first | omega | assumption) only [BB, e6, e7]) | with_reducible refine Gst.now ?_ | with_reducible refine vawp_draw mixed (by kernel_rfl) ?_ | with_reducible first | refine lwV_out ?_ | refine lwV_out0 ?_ | refine lkC_out ?_ | refine And.intro (by omega) ?_ | fail)
    refine ⟨setV_full (by rw [List.length_map, hcl]; rfl), by simp, fun m hm => ?_, rfl⟩
    rw [show m = 0 by omega]; rfl
  · rintro c ρ h1 ⟨i, D, hc, hi15, g2, g3, g4, g5, hD, hDm, rfl⟩
    by_cases hi : i + 1 ≤ 15
    · have e1 := eq_true hi
      have e2 := hD
      have e3 := hcl
      have e4 : (i < 16) = True := eq_true (by omega)
      have e5 : (i + 1 < 16) = True := eq_true (by omega)
      have hf1 := hflt i (by omega)
      have hf2 := hDm i (Nat.le_refl i)
      have hf3 := hfs i
      have e6 : IntKind.u32.wrap ((C.getD i 0 : Nat) : Int) = ((C.getD i 0 : Nat) : Int) := by rw [IntKind.wrap_u32]; omega
      repeat (first | (simp (maxSteps := 1000000) only [↓reduceIte, go_sem, e6, e7, g2, g3, g4, g5, e1, e2, e3, e4, e5]) | (simp (maxSteps := 1000000) (disch := first | omega | assumption) only [BB, e6, e7, g2, g3, g4, g5, e1, e2, e3, e4, e5]) | with_reducible refine Gst.now ?_ | with_reducible refine vawp_draw mixed (by kernel_rfl) ?_ | with_reducible first | refine lwV_out ?_ | refine lwV_out0 ?_ | refine lkC_out ?_ | refine And.intro (by omega) ?_ | fail)
      refine ⟨c - 1, by omega, i + 1, D.set (i + 1) ((D.getD i 0 + C.getD i 0) * 2), by omega, hi, rfl, by rw [List.length_set]; exact hD, fun m hm => ?_, rfl⟩
      rw [set_getD (by omega)]
      by_cases hmi : m = i + 1
      · rw [if_pos hmi, hmi, hfs, hf2]
      · rw [if_neg hmi, hDm m (by omega)]
    · have e1 := eq_false hi
      have hE : D = firstsL ls := ext_getD (by rw [hfl, hD]) fun m hm => by rw [hDm m (by omega), hfg m (by omega)]
      subst hE
      have e2 := hD
      have e5 : ((firstsL ls).map (iv .u32)).take 16 = (firstsL ls).map (iv .u32) := List.take_of_length_le (by rw [List.length_map, hD]; omega)
      have e8 : ((firstsL ls).map (iv .u32)).length = 16 := by rw [List.length_map, hD]
      have e9 : ((firstsL ls).map (iv .u32)).all AV.one = true := by rw [List.all_map]; exact List.all_eq_true.2 fun _ _ => rfl
      have e10 : setV ((List.replicate 16 0).map (iv .u32)) 0 ((firstsL ls).map (iv .u32)) = (firstsL ls).map (iv .u32) := setV_full (by rw [e8]; simp)
      repeat (first | (simp (maxSteps := 1000000) only [↓reduceIte, go_sem, e6, e7, g2, g3, g4, g5, e1, e2, e5, e8, e9, e10]) | (simp (maxSteps := 1000000) (disch := first | omega | assumption) only [BB, e6, e7, g2, g3, g4, g5, e1, e2, e5, e8, e9, e10]) | with_reducible refine Gst.now ?_ | with_reducible refine vawp_draw mixed (by kernel_rfl) ?_ | with_reducible first | refine lwV_out ?_ | refine lwV_out0 ?_ | refine lkC_out ?_ | refine And.intro (by omega) ?_ | fail)
      refine ⟨by simp, .now ?_⟩
      repeat (first | (simp (maxSteps := 1000000) only [↓reduceIte, go_sem, e6, e7, g2, g3, g4, g5, e1, e2, e5, e8, e9, e10]) | (simp (maxSteps := 1000000) (disch := first | omega | assumption) only [BB, e6, e7, g2, g3, g4, g5, e1, e2, e5, e8, e9, e10]) | with_reducible refine Gst.now ?_ | with_reducible refine vawp_draw mixed (by kernel_rfl) ?_ | with_reducible first | refine lwV_out ?_ | refine lwV_out0 ?_ | refine lkC_out ?_ | refine And.intro (by omega) ?_ | fail)
      refine hq _ _ ?_
      repeat (first | (simp (maxSteps := 1000000) only [↓reduceIte, go_sem, e6, e7, g2, g3, g4, g5, e1, e2, e5, e8, e9, e10]) | (simp (maxSteps := 1000000) (disch := first | omega | assumption) only [BB, e6, e7, g2, g3, g4, g5, e1, e2, e5, e8, e9, e10]) | with_reducible refine Gst.now ?_ | with_reducible refine vawp_draw mixed (by kernel_rfl) ?_ | with_reducible first | refine lwV_out ?_ | refine lwV_out0 ?_ | refine lkC_out ?_ | refine And.intro (by omega) ?_ | fail)
      refine .drop j2 (.drop j3 ?_)
      refine FrK.now (hcast (hK) ?_)
      first | rfl | (funext i; simp only [hset, hdel]; repeat' split) <;> (first | rfl | (subst_vars; simp_all [hset, hdel]; done) | (subst_vars; exfalso; simp_all [hset, hdel]; done))
theorem hset3 {h : VH} {a b : Nat} {x y z : VB} (hn : a ≠ b) : hset (hset (hset h a x) b y) a z = hset (hset h a z) b y := by
  funext i
  by_cases h1 : i = a
  · rw [h1, hset_at, hset_ne _ _ hn, hset_at]
  · by_cases h2 : i = b
    · rw [h2, hset_ne _ _ (Ne.symm hn), hset_at, hset_at]
    · rw [hset_ne _ _ h1, hset_ne _ _ h2, hset_ne _ _ h1, hset_ne _ _ h2, hset_ne _ _ h1]
/-- The codes. -/
def codeS (ls : List Nat) (s : Nat) : Nat := if 0 < ls.getD s 0 then firstL ls (ls.getD s 0) + (ls.take s).count (ls.getD s 0) else 0
def codesL (ls : List Nat) : List Nat := (List.range ls.length).map (codeS ls)
theorem codes_len (ls : List Nat) : (codesL ls).length = ls.length := by simp [codesL]
theorem codes_get (ls : List Nat) (i : Nat) (hi : i < ls.length) : (codesL ls).getD i 0 = codeS ls i := by
  unfold codesL
  rw [List.getD_eq_getElem?_getD, List.getElem?_map, List.getElem?_range hi]; rfl
def codesR (xs : List Int) : Nat × Bool × List Nat := if chkL xs = 0 then (0, false, codesL (xs.map Int.toNat)) else (chkL xs, true, [])
theorem chk_ok {xs : List Int} (h : chkL xs = 0) : ∃ ls : List Nat, xs = ls.map (fun (x : Nat) => (x : Int)) ∧ (∀ x ∈ ls, x ≤ 15) ∧ ls.length ≤ 288 ∧ sumL ls ≤ 32768 ∧ xs.map Int.toNat = ls := by
  unfold chkL at h
  split at h
  · cases h
  · rename_i hc
    obtain ⟨ls, hls, h15⟩ := natL (xs := xs) (by
      cases hb : xs.any badL with
      | false => rfl
      | true => exact absurd (.inr hb) hc)
    have hlen : xs.length = ls.length := by rw [hls, List.length_map]
    have hE4 : xs.map Int.toNat = ls := by rw [hls, List.map_map]; exact (List.map_congr_left fun x _ => Int.toNat_natCast x).trans (List.map_id ls)
    rw [hE4] at h
    refine ⟨ls, hls, h15, by omega, ?_, hE4⟩
    unfold chkN at h
    split at h
    · assumption
    · cases h
theorem cnt_take_le (ls : List Nat) (s m : Nat) : (ls.take s).count m ≤ ls.count m := (List.take_sublist s ls).count_le m
theorem codes_v {nl : Bool} {l : Nat} {xs : List Int} (hl : l = xs.length) (hb : xs.length ≤ 140737488355328) (hK : K (.tup [.isl (codesR xs).2.1 (codesR xs).2.2.length ((codesR xs).2.2.map (iv .u32)), (.sc (.int .i64 (((codesR xs).1 : Nat))))]) h) : VC Try.prog GL (n + 5) 9 [.isl nl l (xs.map (ivI .i64))] h K := by
  refine VC_go Try.func9 rfl (by decide) Try.ntmps9 Try.results9 rfl fun Q hq hn => ?_
  subst hl
  repeat (first | (simp (maxSteps := 1000000) only [↓reduceIte, go_sem]) | (simp (maxSteps := 1000000) (disch := first | omega | assumption) only [BB]) | with_reducible refine Gst.now ?_ | with_reducible refine vawp_draw mixed (by kernel_rfl) ?_ | with_reducible first | refine lwV_out ?_ | refine lwV_out0 ?_ | refine lkC_out ?_ | refine And.intro (by omega) ?_ | fail)
  with_reducible refine call_ok ?_
  refine check_v rfl hb ?_
  by_cases hc0 : chkL xs = 0
  case neg =>
    have hr : codesR xs = (chkL xs, true, []) := if_neg hc0
    rw [hr] at hK
    have e1 := eq_false hc0
    repeat (first | (simp (maxSteps := 1000000) only [↓reduceIte, go_sem, e1]) | (simp (maxSteps := 1000000) (disch := first | omega | assumption) only [BB, e1]) | with_reducible refine Gst.now ?_ | with_reducible refine vawp_draw mixed (by kernel_rfl) ?_ | with_reducible first | refine lwV_out ?_ | refine lwV_out0 ?_ | refine lkC_out ?_ | refine And.intro (by omega) ?_ | fail)
    refine hq _ _ ?_
    repeat (first | (simp (maxSteps := 1000000) only [↓reduceIte, go_sem, e1]) | (simp (maxSteps := 1000000) (disch := first | omega | assumption) only [BB, e1]) | with_reducible refine Gst.now ?_ | with_reducible refine vawp_draw mixed (by kernel_rfl) ?_ | with_reducible first | refine lwV_out ?_ | refine lwV_out0 ?_ | refine lkC_out ?_ | refine And.intro (by omega) ?_ | fail)
    exact .now hK
  obtain ⟨ls, hls, h15, hb2, hs, hE4⟩ := chk_ok hc0
  have hr : codesR xs = (0, false, codesL ls) := by unfold codesR; rw [if_pos hc0, hE4]
  have hlen : xs.length = ls.length := by rw [hls, List.length_map]
  have hE3 : xs.map (ivI .i64) = ls.map (iv .i64) := by rw [hls]; exact natL_cells ls
  rw [hr] at hK
  rw [hc0, hE3, hlen]
  repeat (first | (simp (maxSteps := 1000000) only [↓reduceIte, go_sem]) | (simp (maxSteps := 1000000) (disch := first | omega | assumption) only [BB]) | with_reducible refine Gst.now ?_ | with_reducible refine vawp_draw mixed (by kernel_rfl) ?_ | with_reducible first | refine lwV_out ?_ | refine lwV_out0 ?_ | refine lkC_out ?_ | refine And.intro (by omega) ?_ | fail)
  with_reducible refine call_ok ?_
  refine firsts_v rfl hb2 h15 hs ?_
  have hfl := firsts_len ls
  have e8 : ((firstsL ls).map (iv .u32)).length = 16 := by rw [List.length_map, hfl]
  have e9 : ((firstsL ls).map (iv .u32)).all AV.one = true := by rw [List.all_map]; exact List.all_eq_true.2 fun _ _ => rfl
  have hcg : ∀ s, s < ls.length → codeS ls s = if 0 < ls.getD s 0 then firstL ls (ls.getD s 0) + (ls.take s).count (ls.getD s 0) else 0 := fun _ _ => rfl
  have hflt := fun l (hl : l ≤ 15) => first_lt h15 hs hl
  have hcc : ∀ m, 0 < m → m < 16 → (cntL ls).getD m 0 = ls.count m := fun m h0 hm => by rw [cntL_get ls m hm, if_neg (by omega)]
  have hfg := firsts_get ls
  have hcol := codes_len ls
  have hcog := codes_get ls
  repeat (first | (simp (maxSteps := 1000000) only [↓reduceIte, go_sem, e8, e9]) | (simp (maxSteps := 1000000) (disch := first | omega | assumption) only [BB, e8, e9]) | with_reducible refine Gst.now ?_ | with_reducible refine vawp_draw mixed (by kernel_rfl) ?_ | with_reducible first | refine lwV_out ?_ | refine lwV_out0 ?_ | refine lkC_out ?_ | refine And.intro (by omega) ?_ | fail)
  intro j5 hj5
  repeat (first | (simp (maxSteps := 1000000) only [↓reduceIte, go_sem, e8, e9]) | (simp (maxSteps := 1000000) (disch := first | omega | assumption) only [BB, e8, e9]) | with_reducible refine Gst.now ?_ | with_reducible refine vawp_draw mixed (by kernel_rfl) ?_ | with_reducible first | refine lwV_out ?_ | refine lwV_out0 ?_ | refine lkC_out ?_ | refine And.intro (by omega) ?_ | fail)
  refine vMake_1 mk24 (by omega) (by omega) fun j6 hj6 => ?_
  try simp (disch := first | omega | assumption) only [go_sem, hset_none, hdel_none] at hj6
  try simp (disch := first | omega | assumption) only [hset_none, hdel_none] at hj6
  repeat (first | (simp (maxSteps := 1000000) only [↓reduceIte, go_sem, e8, e9]) | (simp (maxSteps := 1000000) (disch := first | omega | assumption) only [BB, e8, e9]) | with_reducible refine Gst.now ?_ | with_reducible refine vawp_draw mixed (by kernel_rfl) ?_ | with_reducible first | refine lwV_out ?_ | refine lwV_out0 ?_ | refine lkC_out ?_ | refine And.intro (by omega) ?_ | fail)
  refine vawp_loop (k := ls.length) (fun c ρ h1 => ∃ (i : Nat) (D O : List Nat), c + i = ls.length ∧ ρ 5 = .op j5 0 ∧ ρ 6 = .own j6 0 ls.length ∧ ρ 19 = .isl nl ls.length (ls.map (iv .i64)) ∧ ρ 20 = (.sc (.int .i64 ((ls.length : Nat)))) ∧ ρ 21 = (.sc (.int .i64 ((i : Nat)))) ∧ D.length = 16 ∧ O.length = ls.length ∧ (∀ m, m < 16 → D.getD m 0 = firstL ls m + if m = 0 then 0 else (ls.take i).count m) ∧ (∀ m, m < ls.length → O.getD m 0 = if m < i then codeS ls m else 0) ∧ h1 = hset (hset h j5 (.cells 54 false (D.map (iv .u32)))) j6 (.cells 30 false (O.map (iv .u32)))) ?_ ?_
  · refine ⟨0, firstsL ls, List.replicate ls.length 0, by omega, ?_⟩
    repeat (first | (simp (maxSteps := 1000000) only [↓reduceIte, go_sem, e8, e9]) | (simp (maxSteps := 1000000) (disch := first | omega | assumption) only [BB, e8, e9]) | with_reducible refine Gst.now ?_ | with_reducible refine vawp_draw mixed (by kernel_rfl) ?_ | with_reducible first | refine lwV_out ?_ | refine lwV_out0 ?_ | refine lkC_out ?_ | refine And.intro (by omega) ?_ | fail)
    refine ⟨by simp, fun m hm => ?_, fun m hm => ?_, ?_⟩
    · rw [hfg m hm]; simp
    · rw [if_neg (by omega), List.getD_eq_getElem?_getD, List.getElem?_replicate, if_pos hm]; rfl
    · rw [setV_full (by rw [List.length_map, hfl]; rfl), List.map_replicate]; rfl
  · rintro c ρ h1 ⟨i, D, O, hc, g5, g6, g19, g20, g21, hD, hO, hDm, hOm, rfl⟩
    by_cases hi : i < ls.length
    · have e1 := eq_true hi
      have e2 := hD
      have e3 := hO
      have hx15 := getD_leN (i := i) h15
      have e4 : (ls.getD i 0 < 16) = True := eq_true (by omega)
      have hdx := hDm (ls.getD i 0) (by omega)
      have htc := fun m => count_take (j := m) hi
      have hkc := cnt_take_le ls i (ls.getD i 0)
      have hfx := hflt (ls.getD i 0) hx15
      have hcgi := hcg i hi
      repeat (first | (simp (maxSteps := 1000000) only [↓reduceIte, go_sem, e8, e9, g5, g6, g19, g20, g21, e1, e2, e3, e4]) | (simp (maxSteps := 1000000) (disch := first | omega | assumption) only [BB, e8, e9, g5, g6, g19, g20, g21, e1, e2, e3, e4]) | with_reducible refine Gst.now ?_ | with_reducible refine vawp_draw mixed (by kernel_rfl) ?_ | with_reducible first | refine lwV_out ?_ | refine lwV_out0 ?_ | refine lkC_out ?_ | refine And.intro (by omega) ?_ | fail)
      split
      · rename_i h0
        rw [if_pos h0] at hcgi
        rw [if_neg (by omega)] at hdx
        rw [hcc _ h0 (by omega)] at hfx
        have e5 : (ls.getD i 0 = 0) = False := eq_false (by omega)
        repeat (first | (simp (maxSteps := 1000000) only [↓reduceIte, go_sem, e8, e9, g5, g6, g19, g20, g21, e1, e2, e3, e4, e5]) | (simp (maxSteps := 1000000) (disch := first | omega | assumption) only [BB, e8, e9, g5, g6, g19, g20, g21, e1, e2, e3, e4, e5]) | with_reducible refine Gst.now ?_ | with_reducible refine vawp_draw mixed (by kernel_rfl) ?_ | with_reducible first | refine lwV_out ?_ | refine lwV_out0 ?_ | refine lkC_out ?_ | refine And.intro (by omega) ?_ | fail)
        refine ⟨c - 1, by omega, i + 1, D.set (ls.getD i 0) (D.getD (ls.getD i 0) 0 + 1), O.set i (D.getD (ls.getD i 0) 0), by omega, rfl, by rw [List.length_set]; exact hD, by rw [List.length_set]; exact hO, fun m hm => ?_, fun m hm => ?_, hset3 (Ne.symm hj6.1)⟩
        · rw [set_getD (by omega), htc m]
          by_cases hmx : m = ls.getD i 0
          · rw [if_pos hmx, if_pos hmx.symm, hmx, hdx, if_neg (by omega)]; omega
          · rw [if_neg hmx, if_neg (Ne.symm hmx), hDm m hm]; rfl
        · rw [set_getD (by omega)]
          by_cases hmi : m = i
          · rw [if_pos hmi, if_pos (by omega), hmi, hcgi, hdx]
          · rw [if_neg hmi, hOm m hm]
            by_cases h5 : m < i
            · rw [if_pos h5, if_pos (by omega)]
            · rw [if_neg h5, if_neg (by omega)]
      · rename_i h0
        rw [if_neg h0] at hcgi
        repeat (first | (simp (maxSteps := 1000000) only [↓reduceIte, go_sem, e8, e9, g5, g6, g19, g20, g21, e1, e2, e3, e4]) | (simp (maxSteps := 1000000) (disch := first | omega | assumption) only [BB, e8, e9, g5, g6, g19, g20, g21, e1, e2, e3, e4]) | with_reducible refine Gst.now ?_ | with_reducible refine vawp_draw mixed (by kernel_rfl) ?_ | with_reducible first | refine lwV_out ?_ | refine lwV_out0 ?_ | refine lkC_out ?_ | refine And.intro (by omega) ?_ | fail)
        refine ⟨c - 1, by omega, i + 1, D, O, by omega, rfl, hD, hO, fun m hm => ?_, fun m hm => ?_, rfl⟩
        · rw [hDm m hm, htc m]
          by_cases hm0 : m = 0
          · rw [if_pos hm0, if_pos hm0]
          · rw [if_neg hm0, if_neg hm0, if_neg (by omega)]; rfl
        · rw [hOm m hm]
          by_cases hmi : m = i
          · rw [if_neg (by omega), if_pos (by omega), hmi, hcgi]
          · by_cases h5 : m < i
            · rw [if_pos h5, if_pos (by omega)]
            · rw [if_neg h5, if_neg (by omega)]
    · have e1 := eq_false hi
      have hE : O = codesL ls := ext_getD (by rw [hcol, hO]) fun m hm => by rw [hOm m (by omega), if_pos (by omega), hcog m (by omega)]
      subst hE
      repeat (first | (simp (maxSteps := 1000000) only [↓reduceIte, go_sem, e8, e9, g5, g6, g19, g20, g21, e1]) | (simp (maxSteps := 1000000) (disch := first | omega | assumption) only [BB, e8, e9, g5, g6, g19, g20, g21, e1]) | with_reducible refine Gst.now ?_ | with_reducible refine vawp_draw mixed (by kernel_rfl) ?_ | with_reducible first | refine lwV_out ?_ | refine lwV_out0 ?_ | refine lkC_out ?_ | refine And.intro (by omega) ?_ | fail)
      refine hq _ _ ?_
      repeat (first | (simp (maxSteps := 1000000) only [↓reduceIte, go_sem, e8, e9, g5, g6, g19, g20, g21, e1]) | (simp (maxSteps := 1000000) (disch := first | omega | assumption) only [BB, e8, e9, g5, g6, g19, g20, g21, e1]) | with_reducible refine Gst.now ?_ | with_reducible refine vawp_draw mixed (by kernel_rfl) ?_ | with_reducible first | refine lwV_out ?_ | refine lwV_out0 ?_ | refine lkC_out ?_ | refine And.intro (by omega) ?_ | fail)
      refine .frz (v' := .tup [.isl false ls.length ((codesL ls).map (iv .u32)), (.sc (.int .i64 (0)))]) j6 (hset_at _ _ _) (.tup rfl (by
        intro i c c' h1 h2
        match i with
        | 0 => simp only [List.getElem?_cons_zero, Option.some.injEq] at h1 h2; subst h1 h2; exact .own _
        | 1 => simp only [List.getElem?_cons_succ, List.getElem?_cons_zero, Option.some.injEq] at h1 h2; subst h1 h2; exact .refl _
        | i + 2 => simp at h1)) (.drop j5 ?_)
      rw [hdel_hset (by rw [hset_ne _ _ hj6.1]; exact hj6.2), hdel_hset hj5]
      rw [hcol] at hK
      exact .now hK
end
end Go.Proofs.Ytncicgfbnjneeaa.VCodes
