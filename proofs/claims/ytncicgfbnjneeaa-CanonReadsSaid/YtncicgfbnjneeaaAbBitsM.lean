/- rows of bits, and their bytes: plain facts. -/
import Derived.Test.YtncicgfbnjneeaaProg
import Derived.Test.YtncicgfbnjneeaaAbV16
import Derived.Test.YtncicgfbnjneeaaAbFacts
import Derived.KernelRfl
import Derived.Laws.BitsAllLaws
set_option linter.unusedVariables false
set_option linter.unusedSimpArgs false
set_option maxRecDepth 100000
set_option maxHeartbeats 4000000
namespace Go.Proofs.Ytncicgfbnjneeaa.BitsM
open Go.RowKit Go.Proofs.AbM Go.Proofs.Ytncicgfbnjneeaa.Facts
attribute [local go_sem] vawp_skip_eq vawp_seq_eq vawp_region_eq vawp_cond_g vawp_block_eq vawp_exit_eq vawp_ret_eq thenV_ret thenV_exit thenV_normal inBlockV_normal inBlockV_ret inBlockV_exit resKV_nil resKV_tmp resKV_cell oneV_one oneV_nil oneV_more initV_nil initV_cons updV_at evv_tmp evv_func evv_global evv_int evv_bool evv_str evv_snil evv_pnil evv_agg ofV3_int ofV3_bool ofV3_str ofV3_snil ofV3_pnil vok_tmp vok_func vok_global vok_int vok_bool vok_str vok_snil vok_pnil vok_agg cloV3_int cloV3_bool cloV3_str cloV3_snil cloV3_pnil voks_nil voks_cons scV_int scV_bool scV_str isBlV_b isBV_t isBV_f lwV_none lwV_sc lwV_agg lwV_tup lwV_isl lwV_own lwV_op lwV_ip lwV_fn lwV_junk vops_nil vops_n vops_s gsN_eq vop dstOk_some dstOk_none pkV_b blkV_set eRead_f eRead_t vLoad_op vLoad_ip vStore_op cells_sc cells_isl cells_own cells_op cells_ip cells_fn cells_agg parts_sc parts_isl parts_own parts_op parts_ip parts_fn parts_agg one_sc one_isl one_own one_op one_ip one_fn vField_op vField_ip ePart_f ePart_t vFieldV_agg vIx_isl vIx_own vIx_op vIx_ip vIxV_agg vIxV_str vLen_str vLen_isl vLen_own vLen_agg bndE_none bndE_int vSlice_isl vSlice_str vBin_add vBin_sub vBin_mul vBin_quo vBin_rem vBin_and vBin_or vBin_xor vBin_andNot vBin_eql vBin_neq vBin_lss vBin_leq vBin_gtr vBin_geq vBin_shr_i8 vBin_shl_i8 vBin_shr_i16 vBin_shl_i16 vBin_shr_i32 vBin_shl_i32 vBin_shr_i64 vBin_shl_i64 vBin_shr_u8 vBin_shl_u8 vBin_shr_u16 vBin_shl_u16 vBin_shr_u32 vBin_shl_u32 vBin_shr_u64 vBin_shl_u64 vBin_seq vBin_sne vBin_isln vBin_opn vBin_ipn ex_sc ex_sc2 ex_sc3 ex_tup calleeV wSc_pb wSc_pi wSc_not wSc_neg wSc_com wSc_min2 wSc_max2 vfold_nil vfold_one vfold_cons vfill_nil vfill_e eFill_s vBuild vBox vAlloc setV_map setV_zs setV_zn setV_s hset_hset eConv_ss vConv_e iv_eq ivI_eq ex_get ex_getI set_iv set_ivI okNil isNilV isSlV hdel_at hset_at List.map_toArray List.map_cons List.map_nil List.nil_append List.cons_append List.append_nil List.toList_toArray List.getElem?_toArray List.getElem_toArray List.getElem_cons_zero List.getElem_cons_succ List.getElem?_cons_zero List.getElem?_cons_succ List.set_cons_zero List.set_cons_succ List.set_set List.length_cons List.length_nil List.length_set List.length_map List.all_cons List.all_nil List.drop_zero List.drop_succ_cons List.take_succ_cons List.take_zero List.flatMap_cons Bool.and_eq_true true_and and_true if_true if_false ite_true ite_false forall_eq' forall_eq exists_eq_left exists_eq_left' exists_eq' Value.bool.injEq Value.int.injEq Value.string.injEq Value.pointer.injEq Option.some.injEq AV.sc.injEq AV.op.injEq AV.ip.injEq AV.own.injEq AV.agg.injEq VB.cells.injEq VB.iter.injEq Prod.mk.injEq decide_eq_true_eq decide_eq_false_iff_not Nat.reduceEqDiff Nat.reduceLT Nat.reduceLeDiff Nat.reduceSub Nat.reduceBEq reduceIte Int.reduceLE Int.reduceLT Int.reduceToNat Int.reduceNeg Int.reduceEq Int.reduceNe Int.cast_ofNat_Int Nat.reduceMul Nat.reduceAdd Nat.reduceDiv Nat.reduceMod Nat.reducePow Int.reduceSub Int.reduceAdd Int.reduceMul Int.reducePow Option.isSome_some Option.isSome_none Option.bind_some Option.map_some Option.map_none Option.toList_some Option.toList_none true_or or_true or_false false_or Bool.not_true Bool.not_false Bool.not_eq_true Bool.false_eq_true Bool.not_not false_implies true_implies implies_true Nat.zero_add Nat.add_zero Nat.mul_one Bool.not_eq_true' Bool.true_eq_false Bool.and_true Bool.true_and Bool.and_false Bool.false_and Bool.or_true Bool.true_or Bool.or_false Bool.false_or Option.isNone_some Option.isNone_none Int.reduceBEq Int.reduceBNe beq_self_eq_true bne_self_eq_false beq_iff_eq not_false_eq_true not_true_eq_false Decidable.not_not bne_iff_ne ne_eq Int.toNat_natCast gt_lt ge_le c_add c_mul c_sub c_addn c_nadd c_muln c_nmul c_subn c_nsub c_divn c_modn c_div c_mod c_tdivn c_tmodn c_tdiv c_tmod c_pow c_nn c_beq c_beqn c_bne c_bnen wr64 wr32 wru64 wru32 wru16 wru8 c_if c_if1 c_if2 c_lt c_le c_eq c_ltn c_len c_nlt c_nle c_eqn m_drop m_take Nat.add_sub_cancel_left Nat.add_sub_cancel Int.reduceTMod Int.reduceTDiv Int.reduceMod Int.reduceDiv isC_some hset_ne hdel_ne hdel_hset hdel_hset_ne blkV_nset blkV_ndel hset_hdel gV_t gV_f isGdV_b isGdV_u isBV_u isGdV_g isBV_gt isBV_gf decide_true decide_false Bool.or_eq_false_iff eq_self Nat.lt_irrefl Int.lt_irrefl Nat.le_refl Int.le_refl
attribute [local go_sem high] vops_pk vops_mv vops_as vops_smv pk_and pk_or pk_gand pk_gor pk_orn pk_gorn
attribute [local go_sem] ag3 sz3 zc3 ik3 ag4 sz4 zc4 ag5 sz5 zc5 ik5 ag22 sz22 el22 zc22 is22 ag24 sz24 el24 zc24 is24 ag25 sz25 zc25 ik25 ag30 sz30 zc30 ik30 ag31 sz31 zc31 pt31 ag38 sz38 el38 zc38 is38 ag39 sz39 zc39 pt39 ag49 sz49 zc49 bo49 ag54 sz54 ea54 an54 zc54 bo54 ag58 sz58 ea58 an58 zc58 bo58 ag60 sz60 zc60 bo60 ag62 sz62 zc62 bo62 ag68 sz68 zc68 pt68 ag72 sz72 zc72 ag73 sz73 ea73 an73 zc73 bo73 of49_0 fd49_0 of49_1 fd49_1 of60_0 fd60_0 of60_1 fd60_1 of60_2 fd60_2 of60_3 fd60_3 of60_4 fd60_4 of62_0 fd62_0 of62_1 fd62_1 eqb neb
/-- A row of noughts and ones. -/
def IsBits (X : List Nat) : Prop := ∀ x ∈ X, x < 2
def byteB (X : List Nat) (k : Nat) : Nat := X.getD (8 * k) 0 + X.getD (8 * k + 1) 0 * 2 + X.getD (8 * k + 2) 0 * 4 + X.getD (8 * k + 3) 0 * 8 + X.getD (8 * k + 4) 0 * 16 + X.getD (8 * k + 5) 0 * 32 + X.getD (8 * k + 6) 0 * 64 + X.getD (8 * k + 7) 0 * 128
def packB (X : List Nat) : List Nat := (List.range ((X.length + 7) / 8)).map (byteB X)
theorem packB_len (X : List Nat) : (packB X).length = (X.length + 7) / 8 := by simp [packB]
theorem IsBits.getD {X : List Nat} (h : IsBits X) (i : Nat) : X.getD i 0 < 2 := by
  rw [List.getD_eq_getElem?_getD]
  cases hx : X[i]? with
  | none => simp
  | some x => exact h x (List.mem_of_getElem? hx)
theorem byteB_lt {X : List Nat} (h : IsBits X) (k : Nat) : byteB X k < 256 := by
  have h0 := h.getD (8 * k); have h1 := h.getD (8 * k + 1); have h2 := h.getD (8 * k + 2); have h3 := h.getD (8 * k + 3)
  have h4 := h.getD (8 * k + 4); have h5 := h.getD (8 * k + 5); have h6 := h.getD (8 * k + 6); have h7 := h.getD (8 * k + 7)
  unfold byteB; omega
theorem getD_snoc (X : List Nat) (v i : Nat) : (X ++ [v]).getD i 0 = if i = X.length then v else X.getD i 0 := by
  rw [List.getD_eq_getElem?_getD, List.getD_eq_getElem?_getD]
  by_cases h1 : i < X.length
  · rw [List.getElem?_append_left h1, if_neg (by omega)]
  · rw [List.getElem?_append_right (by omega)]
    by_cases h2 : i = X.length
    · subst h2; simp
    · rw [if_neg h2, List.getElem?_eq_none (show ([v] : List Nat).length ≤ i - X.length by simp; omega), List.getElem?_eq_none (by omega)]
theorem getD_past {X : List Nat} {i : Nat} (h : X.length ≤ i) : X.getD i 0 = 0 := by
  rw [List.getD_eq_getElem?_getD, List.getElem?_eq_none h]; rfl
/-- A bit more: its byte. -/
theorem byteB_snoc (X : List Nat) (v k : Nat) : byteB (X ++ [v]) k = if k = X.length / 8 then byteB X k + v * 2 ^ (X.length % 8) else byteB X k := by
  unfold byteB
  simp only [getD_snoc]
  by_cases hk : k = X.length / 8
  · rw [if_pos hk]
    have hr : X.length % 8 < 8 := Nat.mod_lt _ (by omega)
    have hl : X.length = 8 * k + X.length % 8 := by omega
    have hz : ∀ i, X.length ≤ i → X.getD i 0 = 0 := fun i hi => getD_past hi
    generalize X.length % 8 = r at *
    match r, hr with
    | 0, _ =>
      have e := hz (8 * k) (by omega)
      have hl2 : X.length = 8 * k := by omega
      rw [hl2, if_pos (show 8 * k = 8 * k from rfl), if_neg (show ¬ (8 * k + 1 = 8 * k) by omega), if_neg (show ¬ (8 * k + 2 = 8 * k) by omega), if_neg (show ¬ (8 * k + 3 = 8 * k) by omega), if_neg (show ¬ (8 * k + 4 = 8 * k) by omega), if_neg (show ¬ (8 * k + 5 = 8 * k) by omega), if_neg (show ¬ (8 * k + 6 = 8 * k) by omega), if_neg (show ¬ (8 * k + 7 = 8 * k) by omega)]
      omega
    | 1, _ =>
      have e := hz (8 * k + 1) (by omega)
      have hl2 : X.length = 8 * k + 1 := by omega
      rw [hl2, if_neg (show ¬ (8 * k = 8 * k + 1) by omega), if_pos (show 8 * k + 1 = 8 * k + 1 from rfl), if_neg (show ¬ (8 * k + 2 = 8 * k + 1) by omega), if_neg (show ¬ (8 * k + 3 = 8 * k + 1) by omega), if_neg (show ¬ (8 * k + 4 = 8 * k + 1) by omega), if_neg (show ¬ (8 * k + 5 = 8 * k + 1) by omega), if_neg (show ¬ (8 * k + 6 = 8 * k + 1) by omega), if_neg (show ¬ (8 * k + 7 = 8 * k + 1) by omega)]
      omega
    | 2, _ =>
      have e := hz (8 * k + 2) (by omega)
      have hl2 : X.length = 8 * k + 2 := by omega
      rw [hl2, if_neg (show ¬ (8 * k = 8 * k + 2) by omega), if_neg (show ¬ (8 * k + 1 = 8 * k + 2) by omega), if_pos (show 8 * k + 2 = 8 * k + 2 from rfl), if_neg (show ¬ (8 * k + 3 = 8 * k + 2) by omega), if_neg (show ¬ (8 * k + 4 = 8 * k + 2) by omega), if_neg (show ¬ (8 * k + 5 = 8 * k + 2) by omega), if_neg (show ¬ (8 * k + 6 = 8 * k + 2) by omega), if_neg (show ¬ (8 * k + 7 = 8 * k + 2) by omega)]
      omega
    | 3, _ =>
      have e := hz (8 * k + 3) (by omega)
      have hl2 : X.length = 8 * k + 3 := by omega
      rw [hl2, if_neg (show ¬ (8 * k = 8 * k + 3) by omega), if_neg (show ¬ (8 * k + 1 = 8 * k + 3) by omega), if_neg (show ¬ (8 * k + 2 = 8 * k + 3) by omega), if_pos (show 8 * k + 3 = 8 * k + 3 from rfl), if_neg (show ¬ (8 * k + 4 = 8 * k + 3) by omega), if_neg (show ¬ (8 * k + 5 = 8 * k + 3) by omega), if_neg (show ¬ (8 * k + 6 = 8 * k + 3) by omega), if_neg (show ¬ (8 * k + 7 = 8 * k + 3) by omega)]
      omega
    | 4, _ =>
      have e := hz (8 * k + 4) (by omega)
      have hl2 : X.length = 8 * k + 4 := by omega
      rw [hl2, if_neg (show ¬ (8 * k = 8 * k + 4) by omega), if_neg (show ¬ (8 * k + 1 = 8 * k + 4) by omega), if_neg (show ¬ (8 * k + 2 = 8 * k + 4) by omega), if_neg (show ¬ (8 * k + 3 = 8 * k + 4) by omega), if_pos (show 8 * k + 4 = 8 * k + 4 from rfl), if_neg (show ¬ (8 * k + 5 = 8 * k + 4) by omega), if_neg (show ¬ (8 * k + 6 = 8 * k + 4) by omega), if_neg (show ¬ (8 * k + 7 = 8 * k + 4) by omega)]
      omega
    | 5, _ =>
      have e := hz (8 * k + 5) (by omega)
      have hl2 : X.length = 8 * k + 5 := by omega
      rw [hl2, if_neg (show ¬ (8 * k = 8 * k + 5) by omega), if_neg (show ¬ (8 * k + 1 = 8 * k + 5) by omega), if_neg (show ¬ (8 * k + 2 = 8 * k + 5) by omega), if_neg (show ¬ (8 * k + 3 = 8 * k + 5) by omega), if_neg (show ¬ (8 * k + 4 = 8 * k + 5) by omega), if_pos (show 8 * k + 5 = 8 * k + 5 from rfl), if_neg (show ¬ (8 * k + 6 = 8 * k + 5) by omega), if_neg (show ¬ (8 * k + 7 = 8 * k + 5) by omega)]
      omega
    | 6, _ =>
      have e := hz (8 * k + 6) (by omega)
      have hl2 : X.length = 8 * k + 6 := by omega
      rw [hl2, if_neg (show ¬ (8 * k = 8 * k + 6) by omega), if_neg (show ¬ (8 * k + 1 = 8 * k + 6) by omega), if_neg (show ¬ (8 * k + 2 = 8 * k + 6) by omega), if_neg (show ¬ (8 * k + 3 = 8 * k + 6) by omega), if_neg (show ¬ (8 * k + 4 = 8 * k + 6) by omega), if_neg (show ¬ (8 * k + 5 = 8 * k + 6) by omega), if_pos (show 8 * k + 6 = 8 * k + 6 from rfl), if_neg (show ¬ (8 * k + 7 = 8 * k + 6) by omega)]
      omega
    | 7, _ =>
      have e := hz (8 * k + 7) (by omega)
      have hl2 : X.length = 8 * k + 7 := by omega
      rw [hl2, if_neg (show ¬ (8 * k = 8 * k + 7) by omega), if_neg (show ¬ (8 * k + 1 = 8 * k + 7) by omega), if_neg (show ¬ (8 * k + 2 = 8 * k + 7) by omega), if_neg (show ¬ (8 * k + 3 = 8 * k + 7) by omega), if_neg (show ¬ (8 * k + 4 = 8 * k + 7) by omega), if_neg (show ¬ (8 * k + 5 = 8 * k + 7) by omega), if_neg (show ¬ (8 * k + 6 = 8 * k + 7) by omega), if_pos (show 8 * k + 7 = 8 * k + 7 from rfl)]
      omega
  · rw [if_neg hk]
    rw [if_neg (by omega), if_neg (by omega), if_neg (by omega), if_neg (by omega), if_neg (by omega), if_neg (by omega), if_neg (by omega), if_neg (by omega)]
/-- What stands in the last byte so far is below the next bit's place. -/
theorem byteB_low {X : List Nat} (h : IsBits X) : byteB X (X.length / 8) < 2 ^ (X.length % 8) := by
  have hr : X.length % 8 < 8 := Nat.mod_lt _ (by omega)
  have hl : X.length = 8 * (X.length / 8) + X.length % 8 := by omega
  have hz : ∀ i, X.length ≤ i → X.getD i 0 = 0 := fun i hi => getD_past hi
  have hb := fun i => h.getD i
  generalize X.length / 8 = k at *
  generalize X.length % 8 = r at *
  have h0 := hb (8 * k); have h1 := hb (8 * k + 1); have h2 := hb (8 * k + 2); have h3 := hb (8 * k + 3)
  have h4 := hb (8 * k + 4); have h5 := hb (8 * k + 5); have h6 := hb (8 * k + 6)
  unfold byteB
  match r, hr with
  | 0, _ => rw [hz (8 * k) (by omega), hz (8 * k + 1) (by omega), hz (8 * k + 2) (by omega), hz (8 * k + 3) (by omega), hz (8 * k + 4) (by omega), hz (8 * k + 5) (by omega), hz (8 * k + 6) (by omega), hz (8 * k + 7) (by omega)]; decide
  | 1, _ => rw [hz (8 * k + 1) (by omega), hz (8 * k + 2) (by omega), hz (8 * k + 3) (by omega), hz (8 * k + 4) (by omega), hz (8 * k + 5) (by omega), hz (8 * k + 6) (by omega), hz (8 * k + 7) (by omega)]; omega
  | 2, _ => rw [hz (8 * k + 2) (by omega), hz (8 * k + 3) (by omega), hz (8 * k + 4) (by omega), hz (8 * k + 5) (by omega), hz (8 * k + 6) (by omega), hz (8 * k + 7) (by omega)]; omega
  | 3, _ => rw [hz (8 * k + 3) (by omega), hz (8 * k + 4) (by omega), hz (8 * k + 5) (by omega), hz (8 * k + 6) (by omega), hz (8 * k + 7) (by omega)]; omega
  | 4, _ => rw [hz (8 * k + 4) (by omega), hz (8 * k + 5) (by omega), hz (8 * k + 6) (by omega), hz (8 * k + 7) (by omega)]; omega
  | 5, _ => rw [hz (8 * k + 5) (by omega), hz (8 * k + 6) (by omega), hz (8 * k + 7) (by omega)]; omega
  | 6, _ => rw [hz (8 * k + 6) (by omega), hz (8 * k + 7) (by omega)]; omega
  | 7, _ => rw [hz (8 * k + 7) (by omega)]; omega
theorem packB_get {X : List Nat} {k : Nat} (hk : k < (X.length + 7) / 8) : (packB X)[k]? = some (byteB X k) := by
  unfold packB
  rw [List.getElem?_map, List.getElem?_range hk]; rfl
theorem packB_snoc (X : List Nat) (v : Nat) : packB (X ++ [v]) = (if X.length % 8 = 0 then packB X ++ [0] else packB X).set (X.length / 8) (byteB X (X.length / 8) + v * 2 ^ (X.length % 8)) := by
  apply List.ext_getElem?
  intro k
  have hlen : (if X.length % 8 = 0 then packB X ++ [0] else packB X).length = ((X ++ [v]).length + 7) / 8 := by
    split <;> simp [packB_len] <;> omega
  have hl' : (X ++ [v]).length = X.length + 1 := by simp
  rcases Nat.lt_or_ge k (((X ++ [v]).length + 7) / 8) with hk | hk
  · rw [packB_get hk, byteB_snoc, List.getElem?_set]
    by_cases h1 : X.length / 8 = k
    · subst h1; simp only [if_true]; rw [if_pos (by omega)]
    · rw [if_neg (Ne.symm h1), if_neg h1]
      have : k < (X.length + 7) / 8 := by rw [hl'] at hk; omega
      split
      · rw [List.getElem?_append_left (by rw [packB_len]; exact this), packB_get this]
      · rw [packB_get this]
  · rw [List.getElem?_eq_none (by rw [packB_len]; exact hk), List.getElem?_eq_none (by rw [List.length_set, hlen]; exact hk)]
theorem or_bit {a v r : Nat} (ha : a < 2 ^ r) (hr : r < 8) (hv : v < 2) : bits .or .u8 (a : Int) (IntKind.u8.wrap ((v : Int) * 2 ^ r)) = ((a + v * 2 ^ r : Nat) : Int) := by
  have h8 : 2 ^ r * 2 ≤ 256 := by
    have : 2 ^ (r + 1) ≤ 2 ^ 8 := Nat.pow_le_pow_right (by omega) (by omega)
    rw [Nat.pow_succ] at this; exact this
  have e1 : ((v : Int) * 2 ^ r) = ((v * 2 ^ r : Nat) : Int) := by simp
  have hvr : v * 2 ^ r ≤ 2 ^ r := by
    have : v = 0 ∨ v = 1 := by omega
    rcases this with rfl | rfl <;> simp
  have hp : 0 < 2 ^ r := Nat.pow_pos (by omega)
  have hor : a ||| v * 2 ^ r = a + v * 2 ^ r := by
    have := Nat.two_pow_add_eq_or_of_lt ha v
    rw [Nat.mul_comm v, Nat.or_comm, ← this, Nat.add_comm]
  rw [e1]
  generalize v * 2 ^ r = M at *
  generalize 2 ^ r = N at *
  rw [IntKind.wrap_u8, show ((M : Int)) % 256 = (M : Int) by omega, Go.u8_or_nat a M (by omega) (by omega), hor]
/-- With noughts up to a byte's end. -/
def padB (X : List Nat) : List Nat := X ++ List.replicate (8 * ((X.length + 7) / 8) - X.length) 0
theorem padB_len (X : List Nat) : (padB X).length = 8 * ((X.length + 7) / 8) := by simp [padB]; omega
theorem getD_zeros (X : List Nat) (k i : Nat) : (X ++ List.replicate k 0).getD i 0 = X.getD i 0 := by
  rw [List.getD_eq_getElem?_getD, List.getD_eq_getElem?_getD]
  rcases Nat.lt_or_ge i X.length with h | h
  · rw [List.getElem?_append_left h]
  · rw [List.getElem?_append_right h, List.getElem?_eq_none h, List.getElem?_replicate]
    split <;> rfl
theorem packB_pad (X : List Nat) : packB (padB X) = packB X := by
  unfold packB
  rw [padB_len, show (8 * ((X.length + 7) / 8) + 7) / 8 = (X.length + 7) / 8 by omega]
  apply List.map_congr_left
  intro k _
  unfold byteB padB
  simp only [getD_zeros]
theorem padB_bits {X : List Nat} (h : IsBits X) : IsBits (padB X) := fun x hx => by
  rcases List.mem_append.1 hx with hx | hx
  · exact h x hx
  · rw [List.mem_replicate] at hx; omega
/-- The bits of a byte, of bytes. -/
def bits8 (b : Nat) : List Nat := [b % 2, b / 2 % 2, b / 4 % 2, b / 8 % 2, b / 16 % 2, b / 32 % 2, b / 64 % 2, b / 128 % 2]
def bitsOf (bs : List Nat) : List Nat := bs.flatMap bits8
theorem bitsOf_len : ∀ bs, (bitsOf bs).length = 8 * bs.length
  | [] => rfl
  | b :: bs => by
    have := bitsOf_len bs
    unfold bitsOf at this ⊢
    rw [List.flatMap_cons, List.length_append, this, List.length_cons]
    simp [bits8]; omega
theorem bitsOf_bits : ∀ bs, IsBits (bitsOf bs)
  | [] => fun x hx => by simp [bitsOf] at hx
  | b :: bs => fun x hx => by
    unfold bitsOf at hx
    rw [List.flatMap_cons] at hx
    rcases List.mem_append.1 hx with h | h
    · simp only [bits8, List.mem_cons, List.not_mem_nil, or_false] at h
      omega
    · exact bitsOf_bits bs x h
theorem byteB_shift (X Y : List Nat) {q : Nat} (hX : X.length = 8 * q) (k : Nat) : byteB (X ++ Y) (q + k) = byteB Y k := by
  have e : ∀ i, (X ++ Y).getD (8 * (q + k) + i) 0 = Y.getD (8 * k + i) 0 := by
    intro i
    rw [List.getD_eq_getElem?_getD, List.getD_eq_getElem?_getD, List.getElem?_append_right (by omega)]
    congr 2; omega
  unfold byteB
  rw [e 1, e 2, e 3, e 4, e 5, e 6, e 7]
  have := e 0
  simp only [Nat.add_zero] at this
  rw [this]
theorem byteB_left (X Y : List Nat) {q : Nat} (hX : X.length = 8 * q) {k : Nat} (hk : k < q) : byteB (X ++ Y) k = byteB X k := by
  have e : ∀ i, i < 8 → (X ++ Y).getD (8 * k + i) 0 = X.getD (8 * k + i) 0 := by
    intro i hi
    rw [List.getD_eq_getElem?_getD, List.getD_eq_getElem?_getD, List.getElem?_append_left (by omega)]
  unfold byteB
  rw [e 1 (by omega), e 2 (by omega), e 3 (by omega), e 4 (by omega), e 5 (by omega), e 6 (by omega), e 7 (by omega)]
  have := e 0 (by omega)
  simp only [Nat.add_zero] at this
  rw [this]
theorem packB_append (X Y : List Nat) {q : Nat} (hX : X.length = 8 * q) : packB (X ++ Y) = packB X ++ packB Y := by
  apply List.ext_getElem?
  intro k
  have hl : ((X ++ Y).length + 7) / 8 = q + (Y.length + 7) / 8 := by rw [List.length_append]; omega
  have hlx : (X.length + 7) / 8 = q := by omega
  rcases Nat.lt_or_ge k q with hk | hk
  · rw [packB_get (by omega), List.getElem?_append_left (by rw [packB_len]; omega), packB_get (by omega), byteB_left X Y hX hk]
  · rw [List.getElem?_append_right (by rw [packB_len]; omega), packB_len, hlx]
    rcases Nat.lt_or_ge k (((X ++ Y).length + 7) / 8) with h2 | h2
    · rw [packB_get h2, packB_get (by omega)]
      have := byteB_shift X Y hX (k - q)
      rw [show q + (k - q) = k by omega] at this
      rw [this]
    · rw [List.getElem?_eq_none (by rw [packB_len]; exact h2), List.getElem?_eq_none (by rw [packB_len]; omega)]
theorem packB_bits8 {b : Nat} (hb : b < 256) : packB (bits8 b) = [b] := by
  have : byteB (bits8 b) 0 = b := by
    simp only [byteB, bits8, List.getD_cons_zero, List.getD_cons_succ, Nat.mul_zero, Nat.zero_add]
    omega
  unfold packB
  rw [show ((bits8 b).length + 7) / 8 = 1 by simp [bits8]]
  simp [List.range_succ, this]
theorem packB_bitsOf : ∀ {bs : List Nat}, (∀ b ∈ bs, b < 256) → packB (bitsOf bs) = bs
  | [], _ => rfl
  | b :: bs, h => by
    unfold bitsOf
    rw [List.flatMap_cons, packB_append (q := 1) _ _ rfl, packB_bits8 (h b (by simp))]
    have := packB_bitsOf (bs := bs) fun x hx => h x (by simp [hx])
    unfold bitsOf at this
    rw [this]; rfl
/-- The number of bits, the lowest one first. -/
def numB : List Nat → Nat
  | [] => 0
  | y :: ys => y + 2 * numB ys
theorem numB_append : ∀ (X Y : List Nat), numB (X ++ Y) = numB X + 2 ^ X.length * numB Y
  | [], Y => by simp [numB]
  | x :: X, Y => by
    show x + 2 * numB (X ++ Y) = x + 2 * numB X + 2 ^ (X.length + 1) * numB Y
    rw [numB_append X Y, Nat.pow_succ, Nat.mul_add, Nat.mul_comm (2 ^ X.length) 2, Nat.mul_assoc, Nat.add_assoc]
theorem numB_lt : ∀ {X : List Nat}, IsBits X → numB X < 2 ^ X.length
  | [], _ => by simp [numB]
  | x :: X, h => by
    have h1 := h x (by simp)
    have h2 := numB_lt (X := X) fun y hy => h y (by simp [hy])
    show x + 2 * numB X < 2 ^ (X.length + 1)
    rw [Nat.pow_succ]; omega
theorem bits8_get {b p : Nat} (hp : p < 8) : (bits8 b)[p]? = some (b / 2 ^ p % 2) := by
  match p, hp with
  | 0, _ => simp [bits8]
  | 1, _ => simp [bits8]
  | 2, _ => simp [bits8]
  | 3, _ => simp [bits8]
  | 4, _ => simp [bits8]
  | 5, _ => simp [bits8]
  | 6, _ => simp [bits8]
  | 7, _ => simp [bits8]
theorem bitsOf_get : ∀ {bs : List Nat} {p b : Nat}, bs[p / 8]? = some b → (bitsOf bs)[p]? = some (b / 2 ^ (p % 8) % 2)
  | [], p, b, h => by simp at h
  | c :: bs, p, b, h => by
    unfold bitsOf
    rw [List.flatMap_cons]
    have h8 : (bits8 c).length = 8 := by simp [bits8]
    rcases Nat.lt_or_ge p 8 with hp | hp
    · rw [List.getElem?_append_left (by omega)]
      rw [show p / 8 = 0 by omega] at h
      simp at h
      subst h
      rw [bits8_get hp, show p % 8 = p by omega]
    · rw [List.getElem?_append_right (by omega), h8]
      have := bitsOf_get (bs := bs) (p := p - 8) (b := b) (by
        rw [show p / 8 = (p - 8) / 8 + 1 by omega] at h
        simpa using h)
      unfold bitsOf at this
      rw [this, show (p - 8) % 8 = p % 8 by omega]
theorem or_u32 {a v r : Nat} (ha : a < 2 ^ r) (hr : r < 32) (hv : v < 2) : bits .or .u32 (a : Int) (IntKind.u32.wrap ((v : Int) * 2 ^ r)) = ((a + v * 2 ^ r : Nat) : Int) := by
  have h8 : 2 ^ r * 2 ≤ 4294967296 := by
    have : 2 ^ (r + 1) ≤ 2 ^ 32 := Nat.pow_le_pow_right (by omega) (by omega)
    rw [Nat.pow_succ] at this; exact this
  have e1 : ((v : Int) * 2 ^ r) = ((v * 2 ^ r : Nat) : Int) := by simp
  have hvr : v * 2 ^ r ≤ 2 ^ r := by
    have : v = 0 ∨ v = 1 := by omega
    rcases this with rfl | rfl <;> simp
  have hp : 0 < 2 ^ r := Nat.pow_pos (by omega)
  have hor : a ||| v * 2 ^ r = a + v * 2 ^ r := by
    have := Nat.two_pow_add_eq_or_of_lt ha v
    rw [Nat.mul_comm v, Nat.or_comm, ← this, Nat.add_comm]
  rw [e1]
  generalize v * 2 ^ r = M at *
  generalize 2 ^ r = N at *
  have hw : IntKind.u32.wrap (M : Int) = (M : Int) := by simp [IntKind.wrap, IntKind.bits, IntKind.signed]; omega
  rw [hw, Go.u32_or_nat a M (by omega) (by omega), hor]
/-- The lowest bits, the lowest one first. -/
def lowBits (v : Nat) : Nat → List Nat
  | 0 => []
  | k + 1 => lowBits v k ++ [v / 2 ^ k % 2]
theorem lowBits_bits (v : Nat) : ∀ k, IsBits (lowBits v k)
  | 0 => fun x hx => by simp [lowBits] at hx
  | k + 1 => fun x hx => by
    rcases List.mem_append.1 hx with h | h
    · exact lowBits_bits v k x h
    · simp at h; omega
theorem lowBits_len (v : Nat) : ∀ k, (lowBits v k).length = k
  | 0 => rfl
  | k + 1 => by simp [lowBits, lowBits_len v k]
theorem IsBits.append {X Y : List Nat} (h : IsBits X) (k : IsBits Y) : IsBits (X ++ Y) := fun x hx => (List.mem_append.1 hx).elim (h x) (k x)
/-- The first k of the N lowest bits, the highest one first. -/
def codeTo (v N : Nat) : Nat → List Nat
  | 0 => []
  | k + 1 => codeTo v N k ++ [v / 2 ^ (N - 1 - k) % 2]
theorem codeTo_bits (v N : Nat) : ∀ k, IsBits (codeTo v N k)
  | 0 => fun x hx => by simp [codeTo] at hx
  | k + 1 => fun x hx => by
    rcases List.mem_append.1 hx with h | h
    · exact codeTo_bits v N k x h
    · simp at h; omega
theorem codeTo_len (v N : Nat) : ∀ k, (codeTo v N k).length = k
  | 0 => rfl
  | k + 1 => by simp [codeTo, codeTo_len v N k]
theorem padB_full {X : List Nat} {q : Nat} (h : X.length = 8 * q) : padB X = X := by
  unfold padB
  rw [show 8 * ((X.length + 7) / 8) - X.length = 0 by omega]; simp
theorem lowBits_get {v i : Nat} : ∀ {k : Nat}, i < k → (lowBits v k).getD i 0 = v / 2 ^ i % 2
  | 0, h => by omega
  | k + 1, h => by
    rw [lowBits, getD_snoc, lowBits_len]
    split
    · rename_i e; rw [e]
    · exact lowBits_get (by omega)
theorem numB_drop {A : List Nat} {a k : Nat} (ha : a < A.length) : numB ((A.drop a).take (k + 1)) = A.getD a 0 + 2 * numB ((A.drop (a + 1)).take k) := by
  rw [List.drop_eq_getElem_cons ha, List.take_succ_cons, List.getD_eq_getElem?_getD, List.getElem?_eq_getElem ha]; rfl
theorem numB_dlt {A : List Nat} (h : IsBits A) {a k : Nat} : numB ((A.drop a).take k) < 2 ^ k := by
  have h1 : IsBits ((A.drop a).take k) := fun x hx => h x (List.mem_of_mem_drop (List.mem_of_mem_take hx))
  have h2 := numB_lt h1
  have h3 : ((A.drop a).take k).length ≤ k := by rw [List.length_take]; omega
  exact Nat.lt_of_lt_of_le h2 (Nat.pow_le_pow_right (by omega) h3)
theorem numB_8 {A : List Nat} {a : Nat} (ha : a + 8 ≤ A.length) : numB ((A.drop a).take 8) = A.getD a 0 + A.getD (a + 1) 0 * 2 + A.getD (a + 2) 0 * 4 + A.getD (a + 3) 0 * 8 + A.getD (a + 4) 0 * 16 + A.getD (a + 5) 0 * 32 + A.getD (a + 6) 0 * 64 + A.getD (a + 7) 0 * 128 := by
  rw [numB_drop (by omega), numB_drop (by omega), numB_drop (by omega), numB_drop (by omega), numB_drop (by omega), numB_drop (by omega), numB_drop (by omega), numB_drop (by omega)]
  simp only [List.take_zero, numB, Nat.add_assoc, Nat.reduceAdd]
  omega
theorem byteB_pad {X : List Nat} {q : Nat} (hq : q < (X.length + 7) / 8) : numB (((padB X).drop (8 * q)).take 8) = byteB X q := by
  rw [numB_8 (by rw [padB_len]; omega)]
  unfold byteB padB
  simp only [getD_zeros]
theorem packB_take {X : List Nat} {q : Nat} (hq : q < (X.length + 7) / 8) : (packB X).take (q + 1) = (packB X).take q ++ [byteB X q] := by
  rw [List.take_succ_eq_append_getElem (by rw [packB_len]; exact hq)]
  have := packB_get hq
  rw [List.getElem?_eq_getElem (by rw [packB_len]; exact hq)] at this
  rw [Option.some.inj this]
theorem bitsOf_take {bs : List Nat} {i : Nat} (hi : i < bs.length) : bitsOf (bs.take (i + 1)) = bitsOf (bs.take i) ++ bits8 (bs.getD i 0) := by
  rw [List.take_succ_eq_append_getElem hi, List.getD_eq_getElem?_getD, List.getElem?_eq_getElem hi]
  unfold bitsOf
  rw [List.flatMap_append]
  simp
theorem bits8_take {c k : Nat} (hk : k < 8) : (bits8 c).take (k + 1) = (bits8 c).take k ++ [c / 2 ^ k % 2] := by
  have h8 : (bits8 c).length = 8 := rfl
  have hg := bits8_get (b := c) hk
  rw [List.take_succ_eq_append_getElem (by omega)]
  rw [List.getElem?_eq_getElem (by omega)] at hg
  rw [Option.some.inj hg]
theorem byteB_bit {X : List Nat} (h : IsBits X) (q : Nat) {r : Nat} (hr : r < 8) : byteB X q / 2 ^ r % 2 = X.getD (8 * q + r) 0 := by
  have h0 := h.getD (8 * q); have h1 := h.getD (8 * q + 1); have h2 := h.getD (8 * q + 2); have h3 := h.getD (8 * q + 3)
  have h4 := h.getD (8 * q + 4); have h5 := h.getD (8 * q + 5); have h6 := h.getD (8 * q + 6); have h7 := h.getD (8 * q + 7)
  unfold byteB
  match r, hr with
  | 0, _ => simp only [Nat.pow_zero, Nat.add_zero, Nat.div_one]; omega
  | 1, _ => simp only [Nat.reducePow]; omega
  | 2, _ => simp only [Nat.reducePow]; omega
  | 3, _ => simp only [Nat.reducePow]; omega
  | 4, _ => simp only [Nat.reducePow]; omega
  | 5, _ => simp only [Nat.reducePow]; omega
  | 6, _ => simp only [Nat.reducePow]; omega
  | 7, _ => simp only [Nat.reducePow]; omega
theorem bitsOf_packB {X : List Nat} (h : IsBits X) : bitsOf (packB X) = padB X := by
  apply List.ext_getElem?
  intro p
  rcases Nat.lt_or_ge p (8 * ((X.length + 7) / 8)) with hp | hp
  · have hq : p / 8 < (X.length + 7) / 8 := by omega
    rw [bitsOf_get (packB_get hq), byteB_bit h _ (Nat.mod_lt _ (by omega)), show 8 * (p / 8) + p % 8 = p by omega]
    have hl : p < (padB X).length := by rw [padB_len]; exact hp
    have := getD_zeros X (8 * ((X.length + 7) / 8) - X.length) p
    rw [← this, List.getD_eq_getElem?_getD]
    show some ((padB X)[p]?.getD 0) = _
    rw [List.getElem?_eq_getElem hl]; rfl
  · rw [List.getElem?_eq_none (by rw [bitsOf_len, packB_len]; exact hp), List.getElem?_eq_none (by rw [padB_len]; exact hp)]
theorem packB_bytes {X : List Nat} (h : IsBits X) : ∀ b ∈ packB X, b < 256 := fun b hb => by
  unfold packB at hb
  obtain ⟨k, _, rfl⟩ := List.mem_map.1 hb
  exact byteB_lt h k
/-- Bits that stand in a row of bits. -/
theorem pad_mid {A B C : List Nat} {k : Nat} (hk : k ≤ B.length) : ((padB (A ++ B ++ C)).drop A.length).take k = B.take k := by
  unfold padB
  rw [List.append_assoc, List.append_assoc, List.drop_left, List.take_append_of_le_length hk]
theorem numB_lowBits (v : Nat) : ∀ k, numB (lowBits v k) = v % 2 ^ k
  | 0 => by simp [lowBits, numB, Nat.mod_one]
  | k + 1 => by
    rw [lowBits, numB_append, lowBits_len, numB_lowBits v k, Nat.pow_succ, Nat.mod_mul]
    simp [numB]
theorem codeTo_get {v N t : Nat} : ∀ {k : Nat}, t < k → (codeTo v N k).getD t 0 = v / 2 ^ (N - 1 - t) % 2
  | 0, h => by omega
  | k + 1, h => by
    rw [codeTo, getD_snoc, codeTo_len]
    split
    · rename_i e; rw [e]
    · exact codeTo_get (by omega)
theorem mask_u32 {v N : Nat} (hv : v < 4294967296) (hN : N < 32) : bits .and .u32 (v : Int) ((2 ^ N - 1 : Nat) : Int) = ((v % 2 ^ N : Nat) : Int) := by
  have hle : 2 ^ N ≤ 2 ^ 31 := Nat.pow_le_pow_right (by omega) (by omega)
  have hand := Nat.and_two_pow_sub_one_eq_mod v N
  have h31 : (2 : Nat) ^ 31 = 2147483648 := by decide
  rw [h31] at hle
  generalize 2 ^ N = M at *
  rw [Go.u32_and_nat v (M - 1) hv (by omega), hand]
theorem and31 (n : Int) : bits .and .i64 n 31 = (((n % 32).toNat : Nat) : Int) := by
  have h31 : (BitVec.ofInt 64 31).toNat = 2 ^ 5 - 1 := by decide
  have key : (BitVec.ofInt 64 n &&& BitVec.ofInt 64 31).toNat = (n % ((2 ^ 64 : Nat) : Int)).toNat % 2 ^ 5 := by
    rw [BitVec.toNat_and, BitVec.toNat_ofInt, h31, Nat.and_two_pow_sub_one_eq_mod]
  show IntKind.i64.wrap ((BitVec.ofInt 64 n &&& BitVec.ofInt 64 31).toNat : Nat) = _
  rw [key, IntKind.wrap_i64]
  omega
theorem pad_get {A B C : List Nat} {t : Nat} (ht : t < B.length) : (padB (A ++ B ++ C)).getD (A.length + t) 0 = B.getD t 0 := by
  unfold padB
  rw [getD_zeros, List.getD_eq_getElem?_getD, List.getD_eq_getElem?_getD, List.append_assoc, List.getElem?_append_right (by omega), Nat.add_sub_cancel_left, List.getElem?_append_left ht]
theorem mod_bit {v N k : Nat} (hk : k < N) : v % 2 ^ N / 2 ^ k % 2 = v / 2 ^ k % 2 := by
  have h := Nat.testBit_mod_two_pow v N k
  rw [Nat.testBit_eq_decide_div_mod_eq, Nat.testBit_eq_decide_div_mod_eq, decide_eq_true hk, Bool.true_and] at h
  have h1 : v % 2 ^ N / 2 ^ k % 2 < 2 := Nat.mod_lt _ (by omega)
  have h2 : v / 2 ^ k % 2 < 2 := Nat.mod_lt _ (by omega)
  rw [decide_eq_decide] at h
  omega
theorem and1_u32 {x : Nat} (h : x < 4294967296) : bits .and .u32 (x : Int) 1 = ((x % 2 : Nat) : Int) := by
  rw [show (1 : Int) = ((1 : Nat) : Int) from rfl, Go.u32_and_nat _ 1 h (by omega), Nat.and_one_is_mod]
end Go.Proofs.Ytncicgfbnjneeaa.BitsM
