/- a table of codes, over the machine of values: Read. -/
import Derived.Test.YtncicgfbnjneeaaProg
import Derived.Test.YtncicgfbnjneeaaAbV16
import Derived.Test.YtncicgfbnjneeaaAbFacts
import Derived.Test.YtncicgfbnjneeaaAbBitsM
import Derived.Test.YtncicgfbnjneeaaAbVBits
import Derived.Test.YtncicgfbnjneeaaAbVBitsT
import Derived.Test.YtncicgfbnjneeaaAbVLen
import Derived.Test.YtncicgfbnjneeaaAbVCheck
import Derived.Test.YtncicgfbnjneeaaAbVCodes
import Derived.Test.YtncicgfbnjneeaaAbVRCodes
import Derived.Test.YtncicgfbnjneeaaAbVNew
import Derived.Test.YtncicgfbnjneeaaAbVNewB
import Derived.Test.YtncicgfbnjneeaaAbVTab
import Derived.KernelRfl
import Derived.Laws.BitsAllLaws
set_option linter.unusedVariables false
set_option linter.unusedSimpArgs false
set_option maxRecDepth 100000
set_option maxHeartbeats 4000000
namespace Go.Proofs.Ytncicgfbnjneeaa.VRead
open Go.RowKit Go.Proofs.AbM Go.Proofs.Ytncicgfbnjneeaa.Facts Go.Proofs.Ytncicgfbnjneeaa.BitsM Go.Proofs.Ytncicgfbnjneeaa.VBits Go.Proofs.Ytncicgfbnjneeaa.VBitsT Go.Proofs.Ytncicgfbnjneeaa.VLen Go.Proofs.Ytncicgfbnjneeaa.VCheck Go.Proofs.Ytncicgfbnjneeaa.VCodes Go.Proofs.Ytncicgfbnjneeaa.VRCodes Go.Proofs.Ytncicgfbnjneeaa.VNew Go.Proofs.Ytncicgfbnjneeaa.VNewB Go.Proofs.Ytncicgfbnjneeaa.VTab
attribute [local go_sem] vawp_skip_eq vawp_seq_eq vawp_region_eq vawp_cond_g vawp_block_eq vawp_exit_eq vawp_ret_eq thenV_ret thenV_exit thenV_normal inBlockV_normal inBlockV_ret inBlockV_exit resKV_nil resKV_tmp resKV_cell oneV_one oneV_nil oneV_more initV_nil initV_cons updV_at evv_tmp evv_func evv_global evv_int evv_bool evv_str evv_snil evv_pnil evv_agg ofV3_int ofV3_bool ofV3_str ofV3_snil ofV3_pnil vok_tmp vok_func vok_global vok_int vok_bool vok_str vok_snil vok_pnil vok_agg cloV3_int cloV3_bool cloV3_str cloV3_snil cloV3_pnil voks_nil voks_cons scV_int scV_bool scV_str isBlV_b isBV_t isBV_f lwV_none lwV_sc lwV_agg lwV_tup lwV_isl lwV_own lwV_op lwV_ip lwV_fn lwV_junk vops_nil vops_n vops_s gsN_eq vop dstOk_some dstOk_none pkV_b blkV_set eRead_f eRead_t vLoad_op vLoad_ip vStore_op cells_sc cells_isl cells_own cells_op cells_ip cells_fn cells_agg parts_sc parts_isl parts_own parts_op parts_ip parts_fn parts_agg one_sc one_isl one_own one_op one_ip one_fn vField_op vField_ip ePart_f ePart_t vFieldV_agg vIx_isl vIx_own vIx_op vIx_ip vIxV_agg vIxV_str vLen_str vLen_isl vLen_own vLen_agg bndE_none bndE_int vSlice_isl vSlice_str vBin_add vBin_sub vBin_mul vBin_quo vBin_rem vBin_and vBin_or vBin_xor vBin_andNot vBin_eql vBin_neq vBin_lss vBin_leq vBin_gtr vBin_geq vBin_shr_i8 vBin_shl_i8 vBin_shr_i16 vBin_shl_i16 vBin_shr_i32 vBin_shl_i32 vBin_shr_i64 vBin_shl_i64 vBin_shr_u8 vBin_shl_u8 vBin_shr_u16 vBin_shl_u16 vBin_shr_u32 vBin_shl_u32 vBin_shr_u64 vBin_shl_u64 vBin_seq vBin_sne vBin_isln vBin_opn vBin_ipn ex_sc ex_sc2 ex_sc3 ex_tup calleeV wSc_pb wSc_pi wSc_not wSc_neg wSc_com wSc_min2 wSc_max2 vfold_nil vfold_one vfold_cons vfill_nil vfill_e eFill_s vBuild vBox vAlloc setV_map setV_zs setV_zn setV_s hset_hset eConv_ss vConv_e iv_eq ivI_eq ex_get ex_getI set_iv set_ivI okNil isNilV isSlV hdel_at hset_at List.map_toArray List.map_cons List.map_nil List.nil_append List.cons_append List.append_nil List.toList_toArray List.getElem?_toArray List.getElem_toArray List.getElem_cons_zero List.getElem_cons_succ List.getElem?_cons_zero List.getElem?_cons_succ List.set_cons_zero List.set_cons_succ List.set_set List.length_cons List.length_nil List.length_set List.length_map List.all_cons List.all_nil List.drop_zero List.drop_succ_cons List.take_succ_cons List.take_zero List.flatMap_cons Bool.and_eq_true true_and and_true if_true if_false ite_true ite_false forall_eq' forall_eq exists_eq_left exists_eq_left' exists_eq' Value.bool.injEq Value.int.injEq Value.string.injEq Value.pointer.injEq Option.some.injEq AV.sc.injEq AV.op.injEq AV.ip.injEq AV.own.injEq AV.agg.injEq VB.cells.injEq VB.iter.injEq Prod.mk.injEq decide_eq_true_eq decide_eq_false_iff_not Nat.reduceEqDiff Nat.reduceLT Nat.reduceLeDiff Nat.reduceSub Nat.reduceBEq reduceIte Int.reduceLE Int.reduceLT Int.reduceToNat Int.reduceNeg Int.reduceEq Int.reduceNe Int.cast_ofNat_Int Nat.reduceMul Nat.reduceAdd Nat.reduceDiv Nat.reduceMod Nat.reducePow Int.reduceSub Int.reduceAdd Int.reduceMul Int.reducePow Option.isSome_some Option.isSome_none Option.bind_some Option.map_some Option.map_none Option.toList_some Option.toList_none true_or or_true or_false false_or Bool.not_true Bool.not_false Bool.not_eq_true Bool.false_eq_true Bool.not_not false_implies true_implies implies_true Nat.zero_add Nat.add_zero Nat.mul_one Bool.not_eq_true' Bool.true_eq_false Bool.and_true Bool.true_and Bool.and_false Bool.false_and Bool.or_true Bool.true_or Bool.or_false Bool.false_or Option.isNone_some Option.isNone_none Int.reduceBEq Int.reduceBNe beq_self_eq_true bne_self_eq_false beq_iff_eq not_false_eq_true not_true_eq_false Decidable.not_not bne_iff_ne ne_eq Int.toNat_natCast gt_lt ge_le c_add c_mul c_sub c_addn c_nadd c_muln c_nmul c_subn c_nsub c_divn c_modn c_div c_mod c_tdivn c_tmodn c_tdiv c_tmod c_pow c_nn c_beq c_beqn c_bne c_bnen wr64 wr32 wru64 wru32 wru16 wru8 c_if c_if1 c_if2 c_lt c_le c_eq c_ltn c_len c_nlt c_nle c_eqn m_drop m_take Nat.add_sub_cancel_left Nat.add_sub_cancel Int.reduceTMod Int.reduceTDiv Int.reduceMod Int.reduceDiv isC_some hset_ne hdel_ne hdel_hset hdel_hset_ne blkV_nset blkV_ndel hset_hdel gV_t gV_f isGdV_b isGdV_u isBV_u isGdV_g isBV_gt isBV_gf decide_true decide_false Bool.or_eq_false_iff eq_self Nat.lt_irrefl Int.lt_irrefl Nat.le_refl Int.le_refl
attribute [local go_sem high] vops_pk vops_mv vops_as vops_smv pk_and pk_or pk_gand pk_gor pk_orn pk_gorn
attribute [local go_sem] ag3 sz3 zc3 ik3 ag4 sz4 zc4 ag5 sz5 zc5 ik5 ag22 sz22 el22 zc22 is22 ag24 sz24 el24 zc24 is24 ag25 sz25 zc25 ik25 ag30 sz30 zc30 ik30 ag31 sz31 zc31 pt31 ag38 sz38 el38 zc38 is38 ag39 sz39 zc39 pt39 ag49 sz49 zc49 bo49 ag54 sz54 ea54 an54 zc54 bo54 ag58 sz58 ea58 an58 zc58 bo58 ag60 sz60 zc60 bo60 ag62 sz62 zc62 bo62 ag68 sz68 zc68 pt68 ag72 sz72 zc72 ag73 sz73 ea73 an73 zc73 bo73 of49_0 fd49_0 of49_1 fd49_1 of60_0 fd60_0 of60_1 fd60_1 of60_2 fd60_2 of60_3 fd60_3 of60_4 fd60_4 of62_0 fd62_0 of62_1 fd62_1 eqb neb
section
variable {n : Nat} {h : VH} {K : AV → VH → Prop}
attribute [local go_sem] Nat.zero_le
/-- The next symbol: the symbol, the error's number, how far. -/
def readL (ls X : List Nat) : Nat → Nat → Nat → Nat → Nat × Nat × Nat
  | 0, a, _, _ => (0, 34, a)
  | f + 1, a, code, m => if noneB ls code m = true then (0, 34, a) else if X.length ≤ a then (0, 20, a) else
      if 2 * code + X.getD a 0 - firstL ls (m + 1) < sLen ls (m + 1) then ((symL ls ls.length (m + 1)).getD (2 * code + X.getD a 0 - firstL ls (m + 1)) 0, 0, a + 1)
      else readL ls X f (a + 1) (2 * code + X.getD a 0) (m + 1)
theorem readL_s {ls X : List Nat} {f a code m : Nat} : readL ls X (f + 1) a code m = if noneB ls code m = true then (0, 34, a) else if X.length ≤ a then (0, 20, a) else
      if 2 * code + X.getD a 0 - firstL ls (m + 1) < sLen ls (m + 1) then ((symL ls ls.length (m + 1)).getD (2 * code + X.getD a 0 - firstL ls (m + 1)) 0, 0, a + 1)
      else readL ls X f (a + 1) (2 * code + X.getD a 0) (m + 1) := rfl
theorem none_15 {ls : List Nat} (h15 : ∀ x ∈ ls, x ≤ 15) {code : Nat} (h : firstL ls 15 + sLen ls 15 ≤ code) : noneB ls code 15 = true := by
  have hl := long_le h15 ls.length
  unfold noneB
  by_cases hL : longL ls ls.length = 15
  · rw [hL]
    have hs : ∀ d, noneF ls code 15 (d + 1) = (noneAt ls code 15 (longL ls ls.length + 1 - (d + 1)) && noneF ls code 15 d) := fun _ => rfl
    rw [show 15 + 1 - 15 = 0 + 1 from rfl, hs, hL]
    have hn : ¬ code * 2 ^ (15 - 15) < firstL ls 15 + sLen ls 15 := by rw [Nat.sub_self, Nat.pow_zero, Nat.mul_one]; omega
    have h1 : noneAt ls code 15 15 = true := by unfold noneAt; rw [decide_eq_false hn, Bool.and_false]; rfl
    show (noneAt ls code 15 15 && true) = true
    rw [h1]; rfl
  · rw [show longL ls ls.length + 1 - 15 = 0 by omega]; rfl
theorem or_two (x b : Nat) (hb : b < 2) : x * 2 ||| b = 2 * x + b := by
  have := Nat.two_pow_add_eq_or_of_lt (i := 1) (b := b) (by omega) x
  rw [show x * 2 = 2 ^ 1 * x by omega, ← this]
theorem hset_id {j : Nat} {e : TypeId} {cs : List AV} (hr : blkV h j = some (e, cs)) : hset h j (.cells e false cs) = h := by
  funext i
  by_cases hi : i = j
  · rw [hi, hset_at]; exact (blkV_iff.1 hr).symm
  · rw [hset_ne _ _ hi]
theorem tread_v {nl nl2 : Bool} {ls bs : List Nat} {j a : Nat} (hb : ls.length ≤ 288) (h15 : ∀ x ∈ ls, x ≤ 15) (hs : sumL ls ≤ 32768) (hr : blkV h j = some (62, RdB nl2 bs a)) (hb8 : ∀ b ∈ bs, b < 256) (ha : a ≤ 8 * bs.length) (hl : bs.length < 400000000)
    (hK : ∀ s e a', (s, e, a') = readL ls (bitsOf bs) 16 a 0 0 → K (.tup [(.sc (.int .i64 ((s : Nat)))), (.sc (.int .i64 ((e : Nat))))]) (hset h j (.cells 62 false (RdB nl2 bs a')))) : VC Try.prog GL (n + 4) 15 [.ip (tabC nl ls) 0, .op j 0] h K := by
  refine VC_go Try.func15 rfl (by decide) Try.ntmps15 Try.results15 rfl fun Q hq hn => ?_
  have hsl := sLen_cnt ls
  have hfl := fun l (hl : l ≤ 15) => first_le h15 hs hl
  have hfs : ∀ l, firstL ls (l + 1) = (firstL ls l + (cntL ls).getD l 0) * 2 := fun _ => rfl
  generalize hRR : readL ls (bitsOf bs) 16 a 0 0 = R at *
  repeat (first | (simp (maxSteps := 1000000) only [↓reduceIte, go_sem]) | (simp (maxSteps := 1000000) (disch := first | omega | assumption) only [BB]) | with_reducible refine Gst.now ?_ | with_reducible refine vawp_draw mixed (by kernel_rfl) ?_ | with_reducible first | refine lwV_out ?_ | refine lwV_out0 ?_ | refine lkC_out ?_ | refine And.intro (by omega) ?_ | fail)
  refine vawp_loop (k := 16) (fun c ρ h1 => ∃ (m code a1 : Nat), c + m = 16 ∧ m ≤ 15 ∧ ρ 0 = .ip (tabC nl ls) 0 ∧ ρ 1 = .op j 0 ∧ ρ 6 = (.sc (.int .u32 ((code : Nat)))) ∧ ρ 7 = (.sc (.int .i64 ((m : Nat)))) ∧ code < 2 ^ m ∧ firstL ls m + sLen ls m ≤ code ∧ a1 ≤ 8 * bs.length ∧ R = readL ls (bitsOf bs) c a1 code m ∧ h1 = hset h j (.cells 62 false (RdB nl2 bs a1))) ?_ ?_
  · refine ⟨0, 0, a, by omega, ?_⟩
    repeat (first | (simp (maxSteps := 1000000) only [↓reduceIte, go_sem]) | (simp (maxSteps := 1000000) (disch := first | omega | assumption) only [BB]) | with_reducible refine Gst.now ?_ | with_reducible refine vawp_draw mixed (by kernel_rfl) ?_ | with_reducible first | refine lwV_out ?_ | refine lwV_out0 ?_ | refine lkC_out ?_ | refine And.intro (by omega) ?_ | fail)
    exact ⟨by rw [hsl 0 (by omega), cntL_get ls 0 (by omega)]; exact Nat.le_refl _, ha, hRR.symm, (hset_id hr).symm⟩
  · rintro c ρ h1 ⟨m, code, a1, hcm, hm15, g0, g1, g6, g7, hcode, hend, ha1, hrd, rfl⟩
    have hbl : blkV (hset h j (.cells 62 false (RdB nl2 bs a1))) j = some (62, RdB nl2 bs a1) := blkV_iff.2 (hset_at _ _ _)
    obtain ⟨c, rfl⟩ : ∃ c', c = c' + 1 := ⟨c - 1, by omega⟩
    rw [readL_s] at hrd
    repeat (first | (simp (maxSteps := 1000000) only [↓reduceIte, go_sem, g0, g1, g6, g7]) | (simp (maxSteps := 1000000) (disch := first | omega | assumption) only [BB, g0, g1, g6, g7]) | with_reducible refine Gst.now ?_ | with_reducible refine vawp_draw mixed (by kernel_rfl) ?_ | with_reducible first | refine lwV_out ?_ | refine lwV_out0 ?_ | refine lkC_out ?_ | refine And.intro (by omega) ?_ | fail)
    with_reducible refine call_ok ?_
    refine none_v hb h15 hs hm15 hcode ?_
    cases hnb : noneB ls code m with
    | true =>
      rw [if_pos hnb] at hrd
      repeat (first | (simp (maxSteps := 1000000) only [↓reduceIte, go_sem, g0, g1, g6, g7]) | (simp (maxSteps := 1000000) (disch := first | omega | assumption) only [BB, g0, g1, g6, g7]) | with_reducible refine Gst.now ?_ | with_reducible refine vawp_draw mixed (by kernel_rfl) ?_ | with_reducible first | refine lwV_out ?_ | refine lwV_out0 ?_ | refine lkC_out ?_ | refine And.intro (by omega) ?_ | fail)
      refine hq _ _ ?_
      repeat (first | (simp (maxSteps := 1000000) only [↓reduceIte, go_sem, g0, g1, g6, g7]) | (simp (maxSteps := 1000000) (disch := first | omega | assumption) only [BB, g0, g1, g6, g7]) | with_reducible refine Gst.now ?_ | with_reducible refine vawp_draw mixed (by kernel_rfl) ?_ | with_reducible first | refine lwV_out ?_ | refine lwV_out0 ?_ | refine lkC_out ?_ | refine And.intro (by omega) ?_ | fail)
      exact .now (hK 0 34 a1 hrd.symm)
    | false =>
      rw [if_neg (by rw [hnb]; decide)] at hrd
      have hm14 : m ≤ 14 := Nat.le_of_not_lt fun hh => by
        have : m = 15 := by omega
        subst this
        rw [none_15 h15 hend] at hnb
        cases hnb
      repeat (first | (simp (maxSteps := 1000000) only [↓reduceIte, go_sem, g0, g1, g6, g7]) | (simp (maxSteps := 1000000) (disch := first | omega | assumption) only [BB, g0, g1, g6, g7]) | with_reducible refine Gst.now ?_ | with_reducible refine vawp_draw mixed (by kernel_rfl) ?_ | with_reducible first | refine lwV_out ?_ | refine lwV_out0 ?_ | refine lkC_out ?_ | refine And.intro (by omega) ?_ | fail)
      with_reducible refine call_ok ?_
      refine rbit_v hbl hb8 ha1 hl (fun hh => ?_) (fun hh => ?_)
      · rw [if_pos (by rw [bitsOf_len]; omega)] at hrd
        repeat (first | (simp (maxSteps := 1000000) only [↓reduceIte, go_sem, g0, g1, g6, g7]) | (simp (maxSteps := 1000000) (disch := first | omega | assumption) only [BB, g0, g1, g6, g7]) | with_reducible refine Gst.now ?_ | with_reducible refine vawp_draw mixed (by kernel_rfl) ?_ | with_reducible first | refine lwV_out ?_ | refine lwV_out0 ?_ | refine lkC_out ?_ | refine And.intro (by omega) ?_ | fail)
        refine hq _ _ ?_
        repeat (first | (simp (maxSteps := 1000000) only [↓reduceIte, go_sem, g0, g1, g6, g7]) | (simp (maxSteps := 1000000) (disch := first | omega | assumption) only [BB, g0, g1, g6, g7]) | with_reducible refine Gst.now ?_ | with_reducible refine vawp_draw mixed (by kernel_rfl) ?_ | with_reducible first | refine lwV_out ?_ | refine lwV_out0 ?_ | refine lkC_out ?_ | refine And.intro (by omega) ?_ | fail)
        exact .now (hK 0 20 a1 hrd.symm)
      · rw [if_neg (by rw [bitsOf_len]; omega)] at hrd
        have hbit : (bitsOf bs).getD a1 0 < 2 := by
          rw [List.getD_eq_getElem?_getD, List.getElem?_eq_getElem (by rw [bitsOf_len]; omega)]
          exact bitsOf_bits bs _ (List.getElem_mem _)
        generalize (bitsOf bs).getD a1 0 = b at *
        rw [hset_hset]
        have hc1 : 2 * code + b < 2 ^ (m + 1) := by rw [Nat.pow_succ]; omega
        have hc2 : 2 ^ (m + 1) ≤ 32768 := (Nat.pow_le_pow_right (by omega) (by omega) : 2 ^ (m + 1) ≤ 2 ^ 15)
        have hf1 : firstL ls (m + 1) ≤ 2 * code := by rw [hfs, ← hsl m (by omega)]; omega
        have e1 : IntKind.u32.wrap ((code : Int) * 2) = ((code * 2 : Nat) : Int) := by rw [IntKind.wrap_u32]; omega
        have e2 : bits .or .u32 ((code * 2 : Nat) : Int) (b : Int) = ((2 * code + b : Nat) : Int) := by
          rw [u32_or_nat _ _ (by omega) (by omega), or_two code b hbit]
        have e3 := tab_first (nl := nl) (ls := ls) (l := m + 1) (by omega)
        have e4 : (tabC nl ls)[18 + (m + 1)]? = some (.isl (decide (symL ls ls.length (m + 1) = [])) (sLen ls (m + 1)) ((symL ls ls.length (m + 1)).map (iv .i64))) := tab_sym (nl := nl) (ls := ls) (l := m + 1) (by omega)
        have e6 : (symL ls ls.length (m + 1)).length = sLen ls (m + 1) := rfl
        have hsm1 := hsl (m + 1) (by omega)
        have hend1 := hfs (m + 1)
        have e5 : (m + 1 < 16) = True := eq_true (by omega)
        generalize hcd : 2 * code + b = cd at *
        repeat (first | (simp (maxSteps := 1000000) only [↓reduceIte, go_sem, g0, g1, g6, g7, e1, e2, e3, e4, e6, e5]) | (simp (maxSteps := 1000000) (disch := first | omega | assumption) only [BB, g0, g1, g6, g7, e1, e2, e3, e4, e6, e5]) | with_reducible refine Gst.now ?_ | with_reducible refine vawp_draw mixed (by kernel_rfl) ?_ | with_reducible first | refine lwV_out ?_ | refine lwV_out0 ?_ | refine lkC_out ?_ | refine And.intro (by omega) ?_ | fail)
        split
        · rename_i hlt
          have hlt2 : cd - firstL ls (m + 1) < sLen ls (m + 1) := by first | exact hlt | omega
          have e7 := eq_true hlt2
          rw [if_pos hlt2] at hrd
          repeat (first | (simp (maxSteps := 1000000) only [↓reduceIte, go_sem, g0, g1, g6, g7, e1, e2, e3, e4, e6, e5, e7]) | (simp (maxSteps := 1000000) (disch := first | omega | assumption) only [BB, g0, g1, g6, g7, e1, e2, e3, e4, e6, e5, e7]) | with_reducible refine Gst.now ?_ | with_reducible refine vawp_draw mixed (by kernel_rfl) ?_ | with_reducible first | refine lwV_out ?_ | refine lwV_out0 ?_ | refine lkC_out ?_ | refine And.intro (by omega) ?_ | fail)
          refine hq _ _ ?_
          repeat (first | (simp (maxSteps := 1000000) only [↓reduceIte, go_sem, g0, g1, g6, g7, e1, e2, e3, e4, e6, e5, e7]) | (simp (maxSteps := 1000000) (disch := first | omega | assumption) only [BB, g0, g1, g6, g7, e1, e2, e3, e4, e6, e5, e7]) | with_reducible refine Gst.now ?_ | with_reducible refine vawp_draw mixed (by kernel_rfl) ?_ | with_reducible first | refine lwV_out ?_ | refine lwV_out0 ?_ | refine lkC_out ?_ | refine And.intro (by omega) ?_ | fail)
          exact .now (hK _ _ _ hrd.symm)
        · rename_i hlt
          have hlt2 : ¬ cd - firstL ls (m + 1) < sLen ls (m + 1) := by first | exact hlt | omega
          rw [if_neg hlt2] at hrd
          repeat (first | (simp (maxSteps := 1000000) only [↓reduceIte, go_sem, g0, g1, g6, g7, e1, e2, e3, e4, e6, e5]) | (simp (maxSteps := 1000000) (disch := first | omega | assumption) only [BB, g0, g1, g6, g7, e1, e2, e3, e4, e6, e5]) | with_reducible refine Gst.now ?_ | with_reducible refine vawp_draw mixed (by kernel_rfl) ?_ | with_reducible first | refine lwV_out ?_ | refine lwV_out0 ?_ | refine lkC_out ?_ | refine And.intro (by omega) ?_ | fail)
          exact ⟨c, by omega, m + 1, cd, a1 + 1, by omega, by omega, rfl, rfl, hc1, by omega, by omega, hrd, rfl⟩
end
end Go.Proofs.Ytncicgfbnjneeaa.VRead
