/- CRC, plain: rows mixed, bits turned, the sum behind its row. -/
import Derived.Test.YtbmidddpddiopaaDoorProg
import Derived.Test.YtbmidddpddiopaaDoorAbV17
import Derived.Test.YtbmidddpddiopaaDoorAbFacts
import Derived.Test.YtbmidddpddiopaaDoorAbVCrcP
import Derived.KernelRfl
import Derived.Laws.BitsAllLaws
set_option linter.unusedVariables false
set_option linter.unusedSimpArgs false
set_option maxRecDepth 100000
set_option maxHeartbeats 4000000
namespace Go.Proofs.YtbmidddpddiopaaDoor.VCrcB
open Go.RowKit Go.Proofs.AbM Go.Proofs.YtbmidddpddiopaaDoor.Facts Go.Proofs.YtbmidddpddiopaaDoor.VCrcP
attribute [local go_sem] vawp_skip_eq vawp_seq_eq vawp_region_eq vawp_cond_g vawp_block_eq vawp_exit_eq vawp_ret_eq thenV_ret thenV_exit thenV_normal inBlockV_normal inBlockV_ret inBlockV_exit resKV_nil resKV_tmp resKV_cell oneV_one oneV_nil oneV_more initV_nil initV_cons updV_at evv_tmp evv_func evv_global evv_int evv_bool evv_str evv_snil evv_pnil evv_agg ofV3_int ofV3_bool ofV3_str ofV3_snil ofV3_pnil vok_tmp vok_func vok_global vok_int vok_bool vok_str vok_snil vok_pnil vok_agg cloV3_int cloV3_bool cloV3_str cloV3_snil cloV3_pnil voks_nil voks_cons scV_int scV_bool scV_str isBlV_b isBV_t isBV_f lwV_none lwV_sc lwV_agg lwV_tup lwV_isl lwV_own lwV_op lwV_ip lwV_fn lwV_junk vops_nil vops_n vops_s gsN_eq vop dstOk_some dstOk_none pkV_b blkV_set eRead_f eRead_t vLoad_op vLoad_ip vStore_op cells_sc cells_isl cells_own cells_op cells_ip cells_fn cells_agg parts_sc parts_isl parts_own parts_op parts_ip parts_fn parts_agg one_sc one_isl one_own one_op one_ip one_fn vField_op vField_ip ePart_f ePart_t vFieldV_agg vIx_isl vIx_own vIx_op vIx_ip vIxV_agg vIxV_str vLen_str vLen_isl vLen_own vLen_agg bndE_none bndE_int vSlice_isl vSlice_str vBin_add vBin_sub vBin_mul vBin_quo vBin_rem vBin_and vBin_or vBin_xor vBin_andNot vBin_eql vBin_neq vBin_lss vBin_leq vBin_gtr vBin_geq vBin_shr_i8 vBin_shl_i8 vBin_shr_i16 vBin_shl_i16 vBin_shr_i32 vBin_shl_i32 vBin_shr_i64 vBin_shl_i64 vBin_shr_u8 vBin_shl_u8 vBin_shr_u16 vBin_shl_u16 vBin_shr_u32 vBin_shl_u32 vBin_shr_u64 vBin_shl_u64 vBin_seq vBin_sne vBin_isln vBin_opn vBin_ipn ex_sc ex_sc2 ex_sc3 ex_tup calleeV wSc_pb wSc_pi wSc_not wSc_neg wSc_com wSc_min2 wSc_max2 vfold_nil vfold_one vfold_cons vfill_nil vfill_e eFill_s vBuild vBox vAlloc setV_map setV_zs setV_zn setV_s hset_hset eConv_ss vConv_e iv_eq ivI_eq ex_get ex_getI set_iv set_ivI okNil isNilV isSlV hdel_at hset_at List.map_toArray List.map_cons List.map_nil List.nil_append List.cons_append List.append_nil List.toList_toArray List.getElem?_toArray List.getElem_toArray List.getElem_cons_zero List.getElem_cons_succ List.getElem?_cons_zero List.getElem?_cons_succ List.set_cons_zero List.set_cons_succ List.set_set List.length_cons List.length_nil List.length_set List.length_map List.all_cons List.all_nil List.drop_zero List.drop_succ_cons List.take_succ_cons List.take_zero List.flatMap_cons Bool.and_eq_true true_and and_true if_true if_false ite_true ite_false forall_eq' forall_eq exists_eq_left exists_eq_left' exists_eq' Value.bool.injEq Value.int.injEq Value.string.injEq Value.pointer.injEq Option.some.injEq AV.sc.injEq AV.op.injEq AV.ip.injEq AV.own.injEq AV.agg.injEq VB.cells.injEq VB.iter.injEq Prod.mk.injEq decide_eq_true_eq decide_eq_false_iff_not Nat.reduceEqDiff Nat.reduceLT Nat.reduceLeDiff Nat.reduceSub Nat.reduceBEq reduceIte Int.reduceLE Int.reduceLT Int.reduceToNat Int.reduceNeg Int.reduceEq Int.reduceNe Int.cast_ofNat_Int Nat.reduceMul Nat.reduceAdd Nat.reduceDiv Nat.reduceMod Nat.reducePow Int.reduceSub Int.reduceAdd Int.reduceMul Int.reducePow Option.isSome_some Option.isSome_none Option.bind_some Option.map_some Option.map_none Option.toList_some Option.toList_none true_or or_true or_false false_or Bool.not_true Bool.not_false Bool.not_eq_true Bool.false_eq_true Bool.not_not false_implies true_implies implies_true Nat.zero_add Nat.add_zero Nat.mul_one Bool.not_eq_true' Bool.true_eq_false Bool.and_true Bool.true_and Bool.and_false Bool.false_and Bool.or_true Bool.true_or Bool.or_false Bool.false_or Option.isNone_some Option.isNone_none Int.reduceBEq Int.reduceBNe beq_self_eq_true bne_self_eq_false beq_iff_eq not_false_eq_true not_true_eq_false Decidable.not_not bne_iff_ne ne_eq Int.toNat_natCast gt_lt ge_le c_add c_mul c_sub c_addn c_nadd c_muln c_nmul c_subn c_nsub c_divn c_modn c_div c_mod c_tdivn c_tmodn c_tdiv c_tmod c_pow c_nn c_beq c_beqn c_bne c_bnen wr64 wr32 wru64 wru32 wru16 wru8 c_if c_if1 c_if2 c_lt c_le c_eq c_ltn c_len c_nlt c_nle c_eqn m_drop m_take Nat.add_sub_cancel_left Nat.add_sub_cancel Int.reduceTMod Int.reduceTDiv Int.reduceMod Int.reduceDiv isC_some hset_ne hdel_ne hdel_hset hdel_hset_ne blkV_nset blkV_ndel hset_hdel gV_t gV_f isGdV_b isGdV_u isBV_u isGdV_g isBV_gt isBV_gf decide_true decide_false Bool.or_eq_false_iff eq_self Nat.lt_irrefl Int.lt_irrefl Nat.le_refl Int.le_refl
attribute [local go_sem high] vops_pk vops_mv vops_as vops_smv pk_and pk_or pk_gand pk_gor pk_orn pk_gorn
attribute [local go_sem] ag3 sz3 zc3 ik3 ag4 sz4 zc4 ag5 sz5 zc5 ik5 ag22 sz22 zc22 ik22 ag23 sz23 el23 zc23 is23 ag28 sz28 el28 zc28 is28 ag32 sz32 el32 zc32 is32 ag41 sz41 ea41 an41 zc41 bo41 eqb neb
theorem stepB_xor (r q : W32) (x y : Nat) : stepB (r ^^^ q) (x ^^^ y) = stepB r x ^^^ stepB q y := by
  unfold stepB
  have e : BitVec.ofNat 32 (x ^^^ y) = BitVec.ofNat 32 x ^^^ BitVec.ofNat 32 y := by
    apply BitVec.eq_of_toNat_eq
    rw [BitVec.toNat_xor, BitVec.toNat_ofNat, BitVec.toNat_ofNat, BitVec.toNat_ofNat, Nat.xor_mod_two_pow]
  rw [e, xac, It_xor]
/-- Two rows, place by place. -/
def mixN (a b : List Nat) (i : Nat) : List Nat := (List.range i).map fun k => a.getD k 0 ^^^ b.getD k 0
theorem mixN_succ (a b : List Nat) (i : Nat) : mixN a b (i + 1) = mixN a b i ++ [a.getD i 0 ^^^ b.getD i 0] := by simp [mixN, List.range_succ]
theorem mixN_len (a b : List Nat) (i : Nat) : (mixN a b i).length = i := by simp [mixN]
theorem take_getD {xs : List Nat} {i : Nat} (hi : i < xs.length) : xs.take (i + 1) = xs.take i ++ [xs.getD i 0] := by
  rw [List.take_succ_eq_append_getElem hi, List.getD_eq_getElem?_getD, List.getElem?_eq_getElem hi]; rfl
theorem reg_mix (r q : W32) (a b : List Nat) (i : Nat) (ha : i ≤ a.length) (hb : i ≤ b.length) : reg (r ^^^ q) (mixN a b i) = reg r (a.take i) ^^^ reg q (b.take i) := by
  induction i with
  | zero => rfl
  | succ i ih =>
    rw [mixN_succ, take_getD (by omega), take_getD (by omega), reg_append, reg_append, reg_append, ih (by omega) (by omega)]
    exact stepB_xor _ _ _ _
theorem crc_mix (a b : List Nat) (h : b.length = a.length) : crcU 0#32 (mixN a b a.length) = crcU 0#32 a ^^^ crcU 0#32 b ^^^ crcU 0#32 (List.replicate a.length 0) := by
  have hF : ∀ x : W32, ~~~ x = x ^^^ (~~~ 0#32) := fun x => by rw [BitVec.not_zero, BitVec.xor_allOnes]
  have h1 := reg_mix (~~~ 0#32) 0#32 a b a.length (Nat.le_refl _) (by omega)
  rw [BitVec.xor_zero, List.take_length, ← h, List.take_length, h] at h1
  have h2 := reg_xor (~~~ 0#32) 0#32 b
  rw [BitVec.xor_zero] at h2
  have h3 := reg_zero a.length (~~~ 0#32)
  rw [h, ← h3] at h2
  unfold crcU
  rw [h1, h2]
  generalize reg (~~~ 0#32) a = x
  generalize reg 0#32 b = y
  generalize reg (~~~ 0#32) (List.replicate a.length 0) = z
  rw [hF (x ^^^ y), hF x, hF (z ^^^ y), hF z]
  generalize (~~~ 0#32 : W32) = f
  apply BitVec.eq_of_getLsbD_eq
  intro i hi
  simp only [BitVec.getLsbD_xor]
  cases x.getLsbD i <;> cases y.getLsbD i <;> cases z.getLsbD i <;> cases f.getLsbD i <;> rfl
theorem It_shl (n : Nat) (c : W32) (j : Nat) (h : ∀ k, 32 - j ≤ k → c.getLsbD k = false) (hj : j ≤ 32) (hn : n ≤ j) : It n (c <<< j) = c <<< (j - n) := by
  induction n with
  | zero => rfl
  | succ n ih =>
    rw [It, ih (by omega)]
    have h0 : (c <<< (j - n)).getLsbD 0 = false := by
      rw [BitVec.getLsbD_shiftLeft]
      simp
      omega
    rw [Sb_low h0]
    apply BitVec.eq_of_getLsbD_eq
    intro k hk
    rw [BitVec.getLsbD_ushiftRight, BitVec.getLsbD_shiftLeft, BitVec.getLsbD_shiftLeft]
    by_cases hk1 : 1 + k < 32
    · have e1 : decide (1 + k < 32) = true := decide_eq_true hk1
      have e2 : decide (k < 32) = true := decide_eq_true hk
      rw [e1, e2]
      by_cases hlt : k < j - (n + 1)
      · simp [show 1 + k < j - n by omega, hlt]
      · simp [show ¬ 1 + k < j - n by omega, hlt, show 1 + k - (j - n) = k - (j - (n + 1)) by omega]
    · have e1 : decide (1 + k < 32) = false := decide_eq_false hk1
      have hz : c.getLsbD (k - (j - (n + 1))) = false := h _ (by omega)
      rw [e1, hz]; simp
theorem bit_one (j : Nat) (hj : j < 32) : It j (1#32 <<< j) = 1#32 := by
  have : ∀ k : Fin 32, It k.val (1#32 <<< k.val) = 1#32 := by decide
  exact this ⟨j, hj⟩
theorem reg_set (r : W32) (bs : List Nat) (p m : Nat) (hp : p < bs.length) : reg r (bs.set p (bs.getD p 0 ^^^ m)) = reg r bs ^^^ It (8 * (bs.length - p)) (BitVec.ofNat 32 m) := by
  have h1 : bs = bs.take p ++ bs.getD p 0 :: bs.drop (p + 1) := by
    rw [List.getD_eq_getElem?_getD, List.getElem?_eq_getElem hp, Option.getD_some, ← List.drop_eq_getElem_cons hp, List.take_append_drop]
  have h2 : bs.set p (bs.getD p 0 ^^^ m) = bs.take p ++ (bs.getD p 0 ^^^ m) :: bs.drop (p + 1) := by
    rw [List.set_eq_take_append_cons_drop, if_pos hp]
  rw [h2]
  conv => rhs; rw [h1]
  rw [reg_append, reg_append]
  generalize reg r (bs.take p) = q
  show reg (stepB q (bs.getD p 0 ^^^ m)) _ = reg (stepB q (bs.getD p 0)) _ ^^^ _
  have h3 : stepB q (bs.getD p 0 ^^^ m) = It 8 (BitVec.ofNat 32 m) ^^^ stepB q (bs.getD p 0) := by
    have := stepB_xor q 0#32 (bs.getD p 0) m
    rw [BitVec.xor_zero] at this
    rw [this, BitVec.xor_comm]
    unfold stepB; rw [BitVec.zero_xor]
  have h4 : (bs.take p ++ bs.getD p 0 :: bs.drop (p + 1)).length = bs.length := by rw [← h1]
  rw [h3, reg_xor, ← It_add, List.length_drop, h4, show 8 * (bs.length - (p + 1)) + 8 = 8 * (bs.length - p) by omega, BitVec.xor_comm]
/-- A bit turned. -/
theorem reg_bit (r : W32) (bs : List Nat) (at_ i : Nat) (hi : i < 32) (ha : at_ + 32 ≤ 8 * bs.length) :
    reg r (bs.set ((at_ + i) / 8) (bs.getD ((at_ + i) / 8) 0 ^^^ 2 ^ ((at_ + i) % 8))) = reg r bs ^^^ It (8 * bs.length - at_) (1#32 <<< i) := by
  rw [reg_set _ _ _ _ (by omega)]
  congr 1
  have hj : (at_ + i) % 8 < 8 := Nat.mod_lt _ (by omega)
  have e1 : BitVec.ofNat 32 (2 ^ ((at_ + i) % 8)) = 1#32 <<< ((at_ + i) % 8) := by
    have : ∀ k : Fin 8, BitVec.ofNat 32 (2 ^ k.val) = 1#32 <<< k.val := by decide
    exact this ⟨_, hj⟩
  rw [e1]
  have e2 : 8 * (bs.length - (at_ + i) / 8) = (8 * bs.length - at_ - i) + (at_ + i) % 8 := by omega
  have e3 : 8 * bs.length - at_ = (8 * bs.length - at_ - i) + i := by omega
  rw [e2, It_add, bit_one _ (by omega), e3, It_add (n := i), bit_one _ hi, Nat.add_sub_cancel]
def lowW (t : W32) (i : Nat) : W32 := BitVec.ofNat 32 (t.toNat % 2 ^ i)
theorem lowW_bit (t : W32) (i k : Nat) (hk : k < 32) : (lowW t i).getLsbD k = (decide (k < i) && t.getLsbD k) := by
  unfold lowW
  rw [BitVec.getLsbD_ofNat, Nat.testBit_mod_two_pow]
  simp [hk, BitVec.getLsbD]
theorem lowW_t {t : W32} {i : Nat} (hi : i < 32) (h : t.getLsbD i = true) : lowW t (i + 1) = lowW t i ^^^ (1#32 <<< i) := by
  apply BitVec.eq_of_getLsbD_eq
  intro k hk
  rw [BitVec.getLsbD_xor, lowW_bit _ _ _ hk, lowW_bit _ _ _ hk, BitVec.getLsbD_shiftLeft]
  by_cases h1 : k = i
  · subst h1; simp [h, hi]
  · by_cases h2 : k < i
    · simp [h2, show k < i + 1 by omega]
    · have h3 : (1#32).getLsbD (k - i) = false := by
        have : ∀ q : Fin 32, q.val ≠ 0 → (1#32).getLsbD q.val = false := by decide
        exact this ⟨k - i, by omega⟩ (by simp; omega)
      rw [h3]
      simp [show ¬ k < i + 1 by omega, h2]
theorem lowW_f {t : W32} {i : Nat} (hi : i < 32) (h : t.getLsbD i = false) : lowW t (i + 1) = lowW t i := by
  apply BitVec.eq_of_getLsbD_eq
  intro k hk
  rw [lowW_bit _ _ _ hk, lowW_bit _ _ _ hk]
  by_cases h1 : k = i
  · subst h1; simp [h]
  · by_cases h2 : k < i
    · simp [h2, show k < i + 1 by omega]
    · simp [show ¬ k < i + 1 by omega, h2]
theorem lowW_32 (t : W32) : lowW t 32 = t := by
  unfold lowW
  rw [Nat.mod_eq_of_lt t.isLt]; simp
theorem lowW_0 (t : W32) : lowW t 0 = 0#32 := by unfold lowW; simp [Nat.mod_one]
theorem burst_ne {t : W32} {n : Nat} {a b : List Nat} (ht : t ≠ 0#32) (h : reg (~~~ 0#32) a = reg (~~~ 0#32) b ^^^ It n t) : crcU 0#32 a ≠ crcU 0#32 b := by
  intro he
  unfold crcU at he
  have he := congrArg (fun z : W32 => ~~~ z) he
  simp only [BitVec.not_not] at he
  rw [h] at he
  have : It n t = 0#32 := by
    have h2 := congrArg (fun z : W32 => reg (~~~ 0#32) b ^^^ z) he
    simp only [← BitVec.xor_assoc, BitVec.xor_self, BitVec.zero_xor] at h2
    exact h2
  exact ht (It_inj this)
/-- The sum behind its row. -/
theorem It8 (c : Nat) (j : Nat) (hc : c < 256) (hj : j < 4) : It (8 * j) (BitVec.ofNat 32 (c * 2 ^ (8 * j))) = BitVec.ofNat 32 c := by
  have e : BitVec.ofNat 32 (c * 2 ^ (8 * j)) = BitVec.ofNat 32 c <<< (8 * j) := by
    apply BitVec.eq_of_toNat_eq
    rw [BitVec.toNat_shiftLeft, BitVec.toNat_ofNat, BitVec.toNat_ofNat, Nat.shiftLeft_eq, Nat.mod_mul_mod]
  rw [e, It_shl (8 * j) _ (8 * j) (fun k hk => ?_) (by omega) (Nat.le_refl _), Nat.sub_self]
  · simp
  · rw [BitVec.getLsbD_ofNat, Nat.testBit_lt_two_pow]
    · simp
    · refine Nat.lt_of_lt_of_le (show c < 2 ^ 8 by omega) (Nat.pow_le_pow_right (by omega) (by omega))
theorem reg4' (r w c0 c1 c2 c3 : W32) (b0 b1 b2 b3 : Nat) (hw : w = c0 ^^^ c1 ^^^ c2 ^^^ c3) (i0 : It (8 * 0) c0 = BitVec.ofNat 32 b0) (i1 : It (8 * 1) c1 = BitVec.ofNat 32 b1) (i2 : It (8 * 2) c2 = BitVec.ofNat 32 b2) (i3 : It (8 * 3) c3 = BitVec.ofNat 32 b3) :
    reg r [b0, b1, b2, b3] = It 32 (r ^^^ w) := by
  rw [hw]
  show stepB (stepB (stepB (stepB r b0) b1) b2) b3 = _
  unfold stepB
  rw [← i0, ← i1, ← i2, ← i3]
  simp only [It_xor, ← It_add]
  simp only [BitVec.xor_assoc]
theorem reg4 (r w : W32) : reg r [w.toNat % 256, w.toNat / 256 % 256, w.toNat / 65536 % 256, w.toNat / 16777216 % 256] = It 32 (r ^^^ w) := by
  have hw : w = BitVec.ofNat 32 (w.toNat % 256 * 2 ^ (8 * 0)) ^^^ BitVec.ofNat 32 (w.toNat / 256 % 256 * 2 ^ (8 * 1)) ^^^ BitVec.ofNat 32 (w.toNat / 65536 % 256 * 2 ^ (8 * 2)) ^^^ BitVec.ofNat 32 (w.toNat / 16777216 % 256 * 2 ^ (8 * 3)) := by
    apply BitVec.eq_of_getLsbD_eq
    intro k hk
    have hbit : ∀ j, j < 4 → (BitVec.ofNat 32 (w.toNat / 2 ^ (8 * j) % 2 ^ 8 * 2 ^ (8 * j))).getLsbD k = (decide (8 * j ≤ k) && decide (k < 8 * j + 8) && w.getLsbD k) := by
      intro j hj
      rw [BitVec.getLsbD_ofNat, Nat.testBit_mul_two_pow, Nat.testBit_mod_two_pow, Nat.testBit_div_two_pow]
      by_cases h1 : 8 * j ≤ k
      · rw [show k - 8 * j + 8 * j = k by omega]
        simp only [hk, h1, decide_true, Bool.true_and, BitVec.getLsbD]
        congr 1
        simp only [decide_eq_decide]; omega
      · simp [h1]
    have h0 := hbit 0 (by omega)
    have h1 := hbit 1 (by omega)
    have h2 := hbit 2 (by omega)
    have h3 := hbit 3 (by omega)
    simp only [Nat.mul_zero, Nat.pow_zero, Nat.div_one] at h0
    rw [BitVec.getLsbD_xor, BitVec.getLsbD_xor, BitVec.getLsbD_xor]
    rw [show w.toNat % 256 * 2 ^ (8 * 0) = w.toNat % 2 ^ 8 * 1 from rfl, show w.toNat / 256 % 256 * 2 ^ (8 * 1) = w.toNat / 2 ^ (8 * 1) % 2 ^ 8 * 2 ^ (8 * 1) from rfl, show w.toNat / 65536 % 256 * 2 ^ (8 * 2) = w.toNat / 2 ^ (8 * 2) % 2 ^ 8 * 2 ^ (8 * 2) from rfl, show w.toNat / 16777216 % 256 * 2 ^ (8 * 3) = w.toNat / 2 ^ (8 * 3) % 2 ^ 8 * 2 ^ (8 * 3) from rfl, h0, h1, h2, h3]
    have hall : ∀ (k : Fin 32) (x : Bool), x = Bool.xor (Bool.xor (Bool.xor (decide (8 * 0 ≤ k.val) && decide (k.val < 8 * 0 + 8) && x) (decide (8 * 1 ≤ k.val) && decide (k.val < 8 * 1 + 8) && x)) (decide (8 * 2 ≤ k.val) && decide (k.val < 8 * 2 + 8) && x)) (decide (8 * 3 ≤ k.val) && decide (k.val < 8 * 3 + 8) && x) := by decide
    exact hall ⟨k, hk⟩ _
  have hb : ∀ q : Nat, q % 256 < 256 := fun q => Nat.mod_lt _ (by omega)
  have i0 := It8 _ 0 (hb w.toNat) (by omega)
  have i1 := It8 _ 1 (hb (w.toNat / 256)) (by omega)
  have i2 := It8 _ 2 (hb (w.toNat / 65536)) (by omega)
  have i3 := It8 _ 3 (hb (w.toNat / 16777216)) (by omega)
  exact reg4' r w _ _ _ _ _ _ _ _ hw i0 i1 i2 i3
theorem crc_tail (s : W32) : (crcU s [s.toNat % 256, s.toNat / 256 % 256, s.toNat / 65536 % 256, s.toNat / 16777216 % 256]).toNat = 558161692 := by
  unfold crcU
  rw [reg4, show ~~~ s ^^^ s = BitVec.allOnes 32 by
    rw [← BitVec.xor_allOnes, BitVec.xor_assoc, BitVec.xor_comm (BitVec.allOnes 32), ← BitVec.xor_assoc, BitVec.xor_self, BitVec.zero_xor]]
  decide
end Go.Proofs.YtbmidddpddiopaaDoor.VCrcB
