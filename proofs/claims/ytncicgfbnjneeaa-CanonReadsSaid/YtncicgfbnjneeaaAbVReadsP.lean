/- the reference's reading is the table's: plain facts. -/
import Derived.Test.YtncicgfbnjneeaaProg
import Derived.Test.YtncicgfbnjneeaaAbV16
import Derived.Test.YtncicgfbnjneeaaAbFacts
import Derived.Test.YtncicgfbnjneeaaAbBitsM
import Derived.Test.YtncicgfbnjneeaaAbVBits
import Derived.Test.YtncicgfbnjneeaaAbVBitsT
import Derived.Test.YtncicgfbnjneeaaAbVLen
import Derived.Test.YtncicgfbnjneeaaAbVCheck
import Derived.Test.YtncicgfbnjneeaaAbVCodes
import Derived.Test.YtncicgfbnjneeaaAbVRCodes
import Derived.Test.YtncicgfbnjneeaaAbVNew
import Derived.Test.YtncicgfbnjneeaaAbVNewB
import Derived.Test.YtncicgfbnjneeaaAbVTab
import Derived.Test.YtncicgfbnjneeaaAbVRead
import Derived.Test.YtncicgfbnjneeaaAbVLaw
import Derived.Test.YtncicgfbnjneeaaAbVOrders
import Derived.Test.YtncicgfbnjneeaaAbVSums
import Derived.Test.YtncicgfbnjneeaaAbVBackP
import Derived.KernelRfl
import Derived.Laws.BitsAllLaws
set_option linter.unusedVariables false
set_option linter.unusedSimpArgs false
set_option maxRecDepth 100000
set_option maxHeartbeats 4000000
namespace Go.Proofs.Ytncicgfbnjneeaa.VReadsP
open Go.RowKit Go.Proofs.AbM Go.Proofs.Ytncicgfbnjneeaa.Facts Go.Proofs.Ytncicgfbnjneeaa.BitsM Go.Proofs.Ytncicgfbnjneeaa.VBits Go.Proofs.Ytncicgfbnjneeaa.VBitsT Go.Proofs.Ytncicgfbnjneeaa.VLen Go.Proofs.Ytncicgfbnjneeaa.VCheck Go.Proofs.Ytncicgfbnjneeaa.VCodes Go.Proofs.Ytncicgfbnjneeaa.VRCodes Go.Proofs.Ytncicgfbnjneeaa.VNew Go.Proofs.Ytncicgfbnjneeaa.VNewB Go.Proofs.Ytncicgfbnjneeaa.VTab Go.Proofs.Ytncicgfbnjneeaa.VRead Go.Proofs.Ytncicgfbnjneeaa.VLaw Go.Proofs.Ytncicgfbnjneeaa.VOrders Go.Proofs.Ytncicgfbnjneeaa.VSums Go.Proofs.Ytncicgfbnjneeaa.VBackP
attribute [local go_sem] vawp_skip_eq vawp_seq_eq vawp_region_eq vawp_cond_g vawp_block_eq vawp_exit_eq vawp_ret_eq thenV_ret thenV_exit thenV_normal inBlockV_normal inBlockV_ret inBlockV_exit resKV_nil resKV_tmp resKV_cell oneV_one oneV_nil oneV_more initV_nil initV_cons updV_at evv_tmp evv_func evv_global evv_int evv_bool evv_str evv_snil evv_pnil evv_agg ofV3_int ofV3_bool ofV3_str ofV3_snil ofV3_pnil vok_tmp vok_func vok_global vok_int vok_bool vok_str vok_snil vok_pnil vok_agg cloV3_int cloV3_bool cloV3_str cloV3_snil cloV3_pnil voks_nil voks_cons scV_int scV_bool scV_str isBlV_b isBV_t isBV_f lwV_none lwV_sc lwV_agg lwV_tup lwV_isl lwV_own lwV_op lwV_ip lwV_fn lwV_junk vops_nil vops_n vops_s gsN_eq vop dstOk_some dstOk_none pkV_b blkV_set eRead_f eRead_t vLoad_op vLoad_ip vStore_op cells_sc cells_isl cells_own cells_op cells_ip cells_fn cells_agg parts_sc parts_isl parts_own parts_op parts_ip parts_fn parts_agg one_sc one_isl one_own one_op one_ip one_fn vField_op vField_ip ePart_f ePart_t vFieldV_agg vIx_isl vIx_own vIx_op vIx_ip vIxV_agg vIxV_str vLen_str vLen_isl vLen_own vLen_agg bndE_none bndE_int vSlice_isl vSlice_str vBin_add vBin_sub vBin_mul vBin_quo vBin_rem vBin_and vBin_or vBin_xor vBin_andNot vBin_eql vBin_neq vBin_lss vBin_leq vBin_gtr vBin_geq vBin_shr_i8 vBin_shl_i8 vBin_shr_i16 vBin_shl_i16 vBin_shr_i32 vBin_shl_i32 vBin_shr_i64 vBin_shl_i64 vBin_shr_u8 vBin_shl_u8 vBin_shr_u16 vBin_shl_u16 vBin_shr_u32 vBin_shl_u32 vBin_shr_u64 vBin_shl_u64 vBin_seq vBin_sne vBin_isln vBin_opn vBin_ipn ex_sc ex_sc2 ex_sc3 ex_tup calleeV wSc_pb wSc_pi wSc_not wSc_neg wSc_com wSc_min2 wSc_max2 vfold_nil vfold_one vfold_cons vfill_nil vfill_e eFill_s vBuild vBox vAlloc setV_map setV_zs setV_zn setV_s hset_hset eConv_ss vConv_e iv_eq ivI_eq ex_get ex_getI set_iv set_ivI okNil isNilV isSlV hdel_at hset_at List.map_toArray List.map_cons List.map_nil List.nil_append List.cons_append List.append_nil List.toList_toArray List.getElem?_toArray List.getElem_toArray List.getElem_cons_zero List.getElem_cons_succ List.getElem?_cons_zero List.getElem?_cons_succ List.set_cons_zero List.set_cons_succ List.set_set List.length_cons List.length_nil List.length_set List.length_map List.all_cons List.all_nil List.drop_zero List.drop_succ_cons List.take_succ_cons List.take_zero List.flatMap_cons Bool.and_eq_true true_and and_true if_true if_false ite_true ite_false forall_eq' forall_eq exists_eq_left exists_eq_left' exists_eq' Value.bool.injEq Value.int.injEq Value.string.injEq Value.pointer.injEq Option.some.injEq AV.sc.injEq AV.op.injEq AV.ip.injEq AV.own.injEq AV.agg.injEq VB.cells.injEq VB.iter.injEq Prod.mk.injEq decide_eq_true_eq decide_eq_false_iff_not Nat.reduceEqDiff Nat.reduceLT Nat.reduceLeDiff Nat.reduceSub Nat.reduceBEq reduceIte Int.reduceLE Int.reduceLT Int.reduceToNat Int.reduceNeg Int.reduceEq Int.reduceNe Int.cast_ofNat_Int Nat.reduceMul Nat.reduceAdd Nat.reduceDiv Nat.reduceMod Nat.reducePow Int.reduceSub Int.reduceAdd Int.reduceMul Int.reducePow Option.isSome_some Option.isSome_none Option.bind_some Option.map_some Option.map_none Option.toList_some Option.toList_none true_or or_true or_false false_or Bool.not_true Bool.not_false Bool.not_eq_true Bool.false_eq_true Bool.not_not false_implies true_implies implies_true Nat.zero_add Nat.add_zero Nat.mul_one Bool.not_eq_true' Bool.true_eq_false Bool.and_true Bool.true_and Bool.and_false Bool.false_and Bool.or_true Bool.true_or Bool.or_false Bool.false_or Option.isNone_some Option.isNone_none Int.reduceBEq Int.reduceBNe beq_self_eq_true bne_self_eq_false beq_iff_eq not_false_eq_true not_true_eq_false Decidable.not_not bne_iff_ne ne_eq Int.toNat_natCast gt_lt ge_le c_add c_mul c_sub c_addn c_nadd c_muln c_nmul c_subn c_nsub c_divn c_modn c_div c_mod c_tdivn c_tmodn c_tdiv c_tmod c_pow c_nn c_beq c_beqn c_bne c_bnen wr64 wr32 wru64 wru32 wru16 wru8 c_if c_if1 c_if2 c_lt c_le c_eq c_ltn c_len c_nlt c_nle c_eqn m_drop m_take Nat.add_sub_cancel_left Nat.add_sub_cancel Int.reduceTMod Int.reduceTDiv Int.reduceMod Int.reduceDiv isC_some hset_ne hdel_ne hdel_hset hdel_hset_ne blkV_nset blkV_ndel hset_hdel gV_t gV_f isGdV_b isGdV_u isBV_u isGdV_g isBV_gt isBV_gf decide_true decide_false Bool.or_eq_false_iff eq_self Nat.lt_irrefl Int.lt_irrefl Nat.le_refl Int.le_refl
attribute [local go_sem high] vops_pk vops_mv vops_as vops_smv pk_and pk_or pk_gand pk_gor pk_orn pk_gorn
attribute [local go_sem] ag3 sz3 zc3 ik3 ag4 sz4 zc4 ag5 sz5 zc5 ik5 ag22 sz22 el22 zc22 is22 ag24 sz24 el24 zc24 is24 ag25 sz25 zc25 ik25 ag30 sz30 zc30 ik30 ag31 sz31 zc31 pt31 ag38 sz38 el38 zc38 is38 ag39 sz39 zc39 pt39 ag49 sz49 zc49 bo49 ag54 sz54 ea54 an54 zc54 bo54 ag58 sz58 ea58 an58 zc58 bo58 ag60 sz60 zc60 bo60 ag62 sz62 zc62 bo62 ag68 sz68 zc68 pt68 ag72 sz72 zc72 ag73 sz73 ea73 an73 zc73 bo73 of49_0 fd49_0 of49_1 fd49_1 of60_0 fd60_0 of60_1 fd60_1 of60_2 fd60_2 of60_3 fd60_3 of60_4 fd60_4 of62_0 fd62_0 of62_1 fd62_1 eqb neb
section
def codeV (X : List Nat) (a : Nat) : Nat → Nat
  | 0 => 0
  | m + 1 => 2 * codeV X a m + X.getD (a + m) 0
theorem bit_lt {X : List Nat} (hX : IsBits X) (i : Nat) : X.getD i 0 < 2 := by
  rw [List.getD_eq_getElem?_getD]
  cases h : X[i]? with
  | none => simp
  | some x => exact hX x (List.mem_of_getElem? h)
theorem codeV_lt {X : List Nat} (hX : IsBits X) (a : Nat) : ∀ m, codeV X a m < 2 ^ m
  | 0 => by simp [codeV]
  | m + 1 => by
    have := codeV_lt hX a m
    have hb := bit_lt hX (a + m)
    rw [codeV, Nat.pow_succ]; omega
theorem snoc_iff {A B : List Nat} {x y : Nat} : A ++ [x] = B ++ [y] ↔ A = B ∧ x = y :=
  ⟨fun h => by
    have := List.append_inj' h rfl
    exact ⟨this.1, by simpa using this.2⟩, fun ⟨h1, h2⟩ => by rw [h1, h2]⟩
theorem begins_iff {X : List Nat} (hX : IsBits X) {a c N : Nat} (hc : c < 2 ^ N) : ∀ m, m ≤ N → a + m ≤ X.length → ((codeTo c N N).take m = (X.drop a).take m ↔ c / 2 ^ (N - m) = codeV X a m)
  | 0, _, _ => by
    rw [Nat.sub_zero, Nat.div_eq_of_lt hc]; simp [codeV]
  | m + 1, h1, h2 => by
    have ih := begins_iff (a := a) hX hc m (by omega) (by omega)
    rw [take_snoc (X := codeTo c N N) (i := m) (by rw [codeTo_len]; omega), take_snoc (X := X.drop a) (i := m) (by rw [List.length_drop]; omega), snoc_iff, ih, codeTo_get (by omega), codeV]
    have hd : (X.drop a).getD m 0 = X.getD (a + m) 0 := by simp [List.getD_eq_getElem?_getD]
    have hb := bit_lt hX (a + m)
    rw [hd]
    have hq : c / 2 ^ (N - m) = c / 2 ^ (N - (m + 1)) / 2 := by
      rw [Nat.div_div_eq_div_mul, ← Nat.pow_succ]; congr 2; omega
    rw [show N - 1 - m = N - (m + 1) by omega, hq]
    generalize c / 2 ^ (N - (m + 1)) = q
    omega
theorem sym_hit {ls : List Nat} (h15 : ∀ x ∈ ls, x ≤ 15) {s : Nat} (hs : s < ls.length) (h0 : 0 < ls.getD s 0) : codeS ls s - firstL ls (ls.getD s 0) < sLen ls (ls.getD s 0) ∧ firstL ls (ls.getD s 0) ≤ codeS ls s ∧ (symL ls ls.length (ls.getD s 0)).getD (codeS ls s - firstL ls (ls.getD s 0)) 0 = s := by
  have hN := getD_leN (i := s) h15
  have hci := code_in h15 hs h0
  have hsl := sLen_cnt ls (ls.getD s 0) (by omega)
  have hcd : codeS ls s - firstL ls (ls.getD s 0) = (ls.take s).count (ls.getD s 0) := by
    unfold codeS; rw [if_pos h0]; omega
  have hsa := sym_at hs h0 (ls.length - (s + 1)) (by omega)
  rw [show s + 1 + (ls.length - (s + 1)) = ls.length by omega] at hsa
  exact ⟨by omega, hci.1, by rw [hcd]; exact hsa⟩
theorem sym_inv {ls : List Nat} (h15 : ∀ x ∈ ls, x ≤ 15) {l i : Nat} (h : i < sLen ls l) : codeS ls ((symL ls ls.length l).getD i 0) = firstL ls l + i := by
  obtain ⟨h1, h2, h3⟩ := sym_mem h
  generalize hs : (symL ls ls.length l).getD i 0 = s at *
  have hh := sym_hit h15 h1 (by omega)
  rw [h3] at hh
  have hnd : (symL ls ls.length l).Nodup := List.Nodup.sublist List.filter_sublist List.nodup_range
  have : codeS ls s - firstL ls l = i := (List.getElem?_inj hh.1 hnd).1 (by
    have e1 : (symL ls ls.length l)[codeS ls s - firstL ls l]? = some s := by
      have := hh.2.2
      rw [List.getD_eq_getElem?_getD, List.getElem?_eq_getElem hh.1] at this
      rw [List.getElem?_eq_getElem hh.1]; exact congrArg some this
    have e2 : (symL ls ls.length l)[i]? = some s := by
      rw [List.getD_eq_getElem?_getD, List.getElem?_eq_getElem h] at hs
      rw [List.getElem?_eq_getElem h]; exact congrArg some hs
    rw [e1, e2])
  omega
/-- a symbol's code begins so -/
def begP (ls X : List Nat) (a m s : Nat) : Prop := 0 < ls.getD s 0 ∧ m ≤ ls.getD s 0 ∧ codeS ls s / 2 ^ (ls.getD s 0 - m) = codeV X a m
theorem hit_none {ls : List Nat} (h15 : ∀ x ∈ ls, x ≤ 15) {m code s : Nat} (hs : s < ls.length) (h0 : 0 < ls.getD s 0) (hm : m ≤ ls.getD s 0) (hc : codeS ls s / 2 ^ (ls.getD s 0 - m) = code) : noneB ls code m = false := by
  have hN := getD_leN (i := s) h15
  have hci := code_in h15 hs h0
  have hNL : ls.getD s 0 ≤ longL ls ls.length := long_ge ls.length s hs
  have hsl := sLen_cnt ls (ls.getD s 0) (by omega)
  subst hc
  unfold noneB
  refine noneF_hit (l := ls.getD s 0) ?_ hNL _ (by omega) (by omega)
  unfold noneAt
  have h1 : codeS ls s / 2 ^ (ls.getD s 0 - m) * 2 ^ (ls.getD s 0 - m) < firstL ls (ls.getD s 0) + sLen ls (ls.getD s 0) := by
    have := Nat.div_mul_le_self (codeS ls s) (2 ^ (ls.getD s 0 - m))
    omega
  rw [decide_eq_true h1, decide_eq_true (show 0 < sLen ls (ls.getD s 0) by omega)]; rfl
theorem noneF_ex {ls : List Nat} {code m : Nat} : ∀ d, noneF ls code m d = false → ∃ l, longL ls ls.length + 1 - d ≤ l ∧ l ≤ longL ls ls.length ∧ noneAt ls code m l = false
  | 0, h => by cases h
  | d + 1, h => by
    have h' : (noneAt ls code m (longL ls ls.length + 1 - (d + 1)) && noneF ls code m d) = false := h
    rw [Bool.and_eq_false_iff] at h'
    rcases h' with h1 | h1
    · by_cases hd : d + 1 ≤ longL ls ls.length + 1
      · exact ⟨_, Nat.le_refl _, by omega, h1⟩
      · exact ⟨0, by omega, by omega, by rw [show longL ls ls.length + 1 - (d + 1) = 0 by omega] at h1; exact h1⟩
    · obtain ⟨l, h2, h3, h4⟩ := noneF_ex d h1
      exact ⟨l, by omega, h3, h4⟩
theorem climb {ls : List Nat} (h15 : ∀ x ∈ ls, x ≤ 15) {m code : Nat} (he : firstL ls m + sLen ls m ≤ code) : ∀ d, m + d ≤ 15 → (∃ s, s < ls.length ∧ 0 < ls.getD s 0 ∧ m ≤ ls.getD s 0 ∧ codeS ls s / 2 ^ (ls.getD s 0 - m) = code) ∨ firstL ls (m + d) + sLen ls (m + d) ≤ code * 2 ^ d
  | 0, _ => .inr (by simpa using he)
  | d + 1, hd => by
    rcases climb h15 he d (by omega) with h | h
    · exact .inl h
    · have hf : firstL ls (m + (d + 1)) = (firstL ls (m + d) + (cntL ls).getD (m + d) 0) * 2 := rfl
      rw [← sLen_cnt ls (m + d) (by omega)] at hf
      have hp : code * 2 ^ (d + 1) = 2 * (code * 2 ^ d) := by rw [Nat.pow_succ, ← Nat.mul_assoc, Nat.mul_comm]
      by_cases hlt : code * 2 ^ (d + 1) < firstL ls (m + (d + 1)) + sLen ls (m + (d + 1))
      · left
        have hi : code * 2 ^ (d + 1) - firstL ls (m + (d + 1)) < sLen ls (m + (d + 1)) := by omega
        have h1 := sym_mem hi
        have h2 := sym_inv h15 hi
        generalize (symL ls ls.length (m + (d + 1))).getD (code * 2 ^ (d + 1) - firstL ls (m + (d + 1))) 0 = s at *
        refine ⟨s, h1.1, by omega, by omega, ?_⟩
        rw [h1.2.2, show m + (d + 1) - m = d + 1 by omega, h2, show firstL ls (m + (d + 1)) + (code * 2 ^ (d + 1) - firstL ls (m + (d + 1))) = code * 2 ^ (d + 1) by omega]
        exact Nat.mul_div_cancel _ (Nat.pow_pos (by decide))
      · exact .inr (by omega)
theorem none_hit {ls : List Nat} (h15 : ∀ x ∈ ls, x ≤ 15) {m code : Nat} (hm : m ≤ 15) (he : firstL ls m + sLen ls m ≤ code) (h : noneB ls code m = false) : ∃ s, s < ls.length ∧ 0 < ls.getD s 0 ∧ m ≤ ls.getD s 0 ∧ codeS ls s / 2 ^ (ls.getD s 0 - m) = code := by
  have hl := long_le h15 ls.length
  unfold noneB at h
  obtain ⟨l, h1, h2, h3⟩ := noneF_ex _ h
  by_cases hml : m ≤ l
  · obtain ⟨d, rfl⟩ : ∃ d, l = m + d := ⟨l - m, by omega⟩
    rcases climb h15 he d (by omega) with hh | hh
    · exact hh
    · unfold noneAt at h3
      rw [Bool.not_eq_false', Bool.and_eq_true, decide_eq_true_eq, decide_eq_true_eq, show m + d - m = d by omega] at h3
      omega
  · rw [show longL ls ls.length + 1 - m = 0 by omega] at h
    cases h
/-- How far the reference is. -/
def RSt (ls X : List Nat) (a : Nat) (R : Nat × Nat × Nat) : Nat → Prop
  | 0 => R = readL ls X 16 a 0 0
  | m + 1 => noneB ls (codeV X a m) m = false ∧ firstL ls m + sLen ls m ≤ codeV X a m ∧ a + m ≤ X.length ∧ R = readL ls X (16 - m) (a + m) (codeV X a m) m
section
variable {ls X : List Nat} {a n : Nat} {R : Nat × Nat × Nat}
theorem rst_short (hR : RSt ls X a R n) (hn : n ≤ 15) (ha : a ≤ X.length) (h : X.length < a + n) : 0 < n ∧ R = (0, 20, a + n - 1) := by
  cases n with
  | zero => omega
  | succ m =>
    obtain ⟨h1, h2, h3, h4⟩ := hR
    refine ⟨by omega, ?_⟩
    rw [h4, show 16 - m = (15 - m) + 1 by omega, readL_s, if_neg (by rw [h1]; decide), if_pos (by omega)]
    rfl
theorem rst_hit (h15 : ∀ x ∈ ls, x ≤ 15) (hR : RSt ls X a R n) (hn : n ≤ 15) (h : a + n ≤ X.length) {s : Nat} (hs : s < ls.length) (hP : begP ls X a n s) (he : ls.getD s 0 = n) : R = (s, 0, a + n) := by
  obtain ⟨p1, p2, p3⟩ := hP
  cases n with
  | zero => omega
  | succ m =>
    obtain ⟨h1, h2, h3, h4⟩ := hR
    have hh := sym_hit h15 hs p1
    rw [he] at hh p3
    rw [Nat.sub_self, Nat.pow_zero, Nat.div_one, codeV] at p3
    rw [h4, show 16 - m = (15 - m) + 1 by omega, readL_s, if_neg (by rw [h1]; decide), if_neg (by omega), ← p3, if_pos hh.1, hh.2.2]
    rfl
theorem rst_miss (h15 : ∀ x ∈ ls, x ≤ 15) (hR : RSt ls X a R n) (hn : n ≤ 15) (h : a + n ≤ X.length) (hno : ∀ s, s < ls.length → begP ls X a n s → ls.getD s 0 ≠ n) : R = readL ls X (16 - n) (a + n) (codeV X a n) n ∧ firstL ls n + sLen ls n ≤ codeV X a n := by
  cases n with
  | zero => exact ⟨hR, by rw [sLen_cnt ls 0 (by omega), cntL_get ls 0 (by omega)]; exact Nat.le_refl _⟩
  | succ m =>
    obtain ⟨h1, h2, h3, h4⟩ := hR
    have hf : firstL ls (m + 1) = (firstL ls m + (cntL ls).getD m 0) * 2 := rfl
    rw [← sLen_cnt ls m (by omega)] at hf
    have hcv : codeV X a (m + 1) = 2 * codeV X a m + X.getD (a + m) 0 := rfl
    have hge : firstL ls (m + 1) ≤ codeV X a (m + 1) := by omega
    have hnl : ¬ codeV X a (m + 1) - firstL ls (m + 1) < sLen ls (m + 1) := fun hlt => by
      have k1 := sym_mem hlt
      have k2 := sym_inv h15 hlt
      generalize (symL ls ls.length (m + 1)).getD (codeV X a (m + 1) - firstL ls (m + 1)) 0 = s at *
      refine hno s k1.1 ⟨by omega, by omega, ?_⟩ k1.2.2
      rw [k1.2.2, Nat.sub_self, Nat.pow_zero, Nat.div_one]
      omega
    refine ⟨?_, by omega⟩
    rw [h4, show 16 - m = (15 - m) + 1 by omega, readL_s, if_neg (by rw [h1]; decide), if_neg (by omega), ← hcv, if_neg hnl]
    rw [show 16 - (m + 1) = 15 - m by omega]
    rfl
theorem rst_next (h15 : ∀ x ∈ ls, x ≤ 15) (hn : n ≤ 15) (h : a + n ≤ X.length) (hm : R = readL ls X (16 - n) (a + n) (codeV X a n) n ∧ firstL ls n + sLen ls n ≤ codeV X a n) (hex : ∃ s, s < ls.length ∧ begP ls X a n s) : RSt ls X a R (n + 1) := by
  obtain ⟨s, h1, p1, p2, p3⟩ := hex
  exact ⟨hit_none h15 h1 p1 p2 p3, hm.2, h, hm.1⟩
theorem rst_none (h15 : ∀ x ∈ ls, x ≤ 15) (hn : n ≤ 15) (hm : R = readL ls X (16 - n) (a + n) (codeV X a n) n ∧ firstL ls n + sLen ls n ≤ codeV X a n) (hex : ¬ ∃ s, s < ls.length ∧ begP ls X a n s) : R = (0, 34, a + n) := by
  have hb : noneB ls (codeV X a n) n = true := by
    cases hb : noneB ls (codeV X a n) n with
    | true => rfl
    | false =>
      obtain ⟨s, h1, h2⟩ := none_hit h15 hn hm.2 hb
      exact absurd ⟨s, h1, h2⟩ hex
  rw [hm.1, show 16 - n = (15 - n) + 1 by omega, readL_s, if_pos hb]
theorem rst_16 (h15 : ∀ x ∈ ls, x ≤ 15) : ¬ RSt ls X a R 16 := fun ⟨h1, h2, _⟩ => by
  rw [none_15 h15 h2] at h1
  cases h1
end
end
end Go.Proofs.Ytncicgfbnjneeaa.VReadsP
