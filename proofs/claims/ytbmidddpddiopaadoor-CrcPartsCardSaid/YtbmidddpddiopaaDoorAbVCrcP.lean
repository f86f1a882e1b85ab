/- CRC, plain: registers, steps, products of polynomials. -/
import Derived.Test.YtbmidddpddiopaaDoorProg
import Derived.Test.YtbmidddpddiopaaDoorAbV17
import Derived.Test.YtbmidddpddiopaaDoorAbFacts
import Derived.KernelRfl
import Derived.Laws.BitsAllLaws
set_option linter.unusedVariables false
set_option linter.unusedSimpArgs false
set_option maxRecDepth 100000
set_option maxHeartbeats 4000000
namespace Go.Proofs.YtbmidddpddiopaaDoor.VCrcP
open Go.RowKit Go.Proofs.AbM Go.Proofs.YtbmidddpddiopaaDoor.Facts
attribute [local go_sem] vawp_skip_eq vawp_seq_eq vawp_region_eq vawp_cond_g vawp_block_eq vawp_exit_eq vawp_ret_eq thenV_ret thenV_exit thenV_normal inBlockV_normal inBlockV_ret inBlockV_exit resKV_nil resKV_tmp resKV_cell oneV_one oneV_nil oneV_more initV_nil initV_cons updV_at evv_tmp evv_func evv_global evv_int evv_bool evv_str evv_snil evv_pnil evv_agg ofV3_int ofV3_bool ofV3_str ofV3_snil ofV3_pnil vok_tmp vok_func vok_global vok_int vok_bool vok_str vok_snil vok_pnil vok_agg cloV3_int cloV3_bool cloV3_str cloV3_snil cloV3_pnil voks_nil voks_cons scV_int scV_bool scV_str isBlV_b isBV_t isBV_f lwV_none lwV_sc lwV_agg lwV_tup lwV_isl lwV_own lwV_op lwV_ip lwV_fn lwV_junk vops_nil vops_n vops_s gsN_eq vop dstOk_some dstOk_none pkV_b blkV_set eRead_f eRead_t vLoad_op vLoad_ip vStore_op cells_sc cells_isl cells_own cells_op cells_ip cells_fn cells_agg parts_sc parts_isl parts_own parts_op parts_ip parts_fn parts_agg one_sc one_isl one_own one_op one_ip one_fn vField_op vField_ip ePart_f ePart_t vFieldV_agg vIx_isl vIx_own vIx_op vIx_ip vIxV_agg vIxV_str vLen_str vLen_isl vLen_own vLen_agg bndE_none bndE_int vSlice_isl vSlice_str vBin_add vBin_sub vBin_mul vBin_quo vBin_rem vBin_and vBin_or vBin_xor vBin_andNot vBin_eql vBin_neq vBin_lss vBin_leq vBin_gtr vBin_geq vBin_shr_i8 vBin_shl_i8 vBin_shr_i16 vBin_shl_i16 vBin_shr_i32 vBin_shl_i32 vBin_shr_i64 vBin_shl_i64 vBin_shr_u8 vBin_shl_u8 vBin_shr_u16 vBin_shl_u16 vBin_shr_u32 vBin_shl_u32 vBin_shr_u64 vBin_shl_u64 vBin_seq vBin_sne vBin_isln vBin_opn vBin_ipn ex_sc ex_sc2 ex_sc3 ex_tup calleeV wSc_pb wSc_pi wSc_not wSc_neg wSc_com wSc_min2 wSc_max2 vfold_nil vfold_one vfold_cons vfill_nil vfill_e eFill_s vBuild vBox vAlloc setV_map setV_zs setV_zn setV_s hset_hset eConv_ss vConv_e iv_eq ivI_eq ex_get ex_getI set_iv set_ivI okNil isNilV isSlV hdel_at hset_at List.map_toArray List.map_cons List.map_nil List.nil_append List.cons_append List.append_nil List.toList_toArray List.getElem?_toArray List.getElem_toArray List.getElem_cons_zero List.getElem_cons_succ List.getElem?_cons_zero List.getElem?_cons_succ List.set_cons_zero List.set_cons_succ List.set_set List.length_cons List.length_nil List.length_set List.length_map List.all_cons List.all_nil List.drop_zero List.drop_succ_cons List.take_succ_cons List.take_zero List.flatMap_cons Bool.and_eq_true true_and and_true if_true if_false ite_true ite_false forall_eq' forall_eq exists_eq_left exists_eq_left' exists_eq' Value.bool.injEq Value.int.injEq Value.string.injEq Value.pointer.injEq Option.some.injEq AV.sc.injEq AV.op.injEq AV.ip.injEq AV.own.injEq AV.agg.injEq VB.cells.injEq VB.iter.injEq Prod.mk.injEq decide_eq_true_eq decide_eq_false_iff_not Nat.reduceEqDiff Nat.reduceLT Nat.reduceLeDiff Nat.reduceSub Nat.reduceBEq reduceIte Int.reduceLE Int.reduceLT Int.reduceToNat Int.reduceNeg Int.reduceEq Int.reduceNe Int.cast_ofNat_Int Nat.reduceMul Nat.reduceAdd Nat.reduceDiv Nat.reduceMod Nat.reducePow Int.reduceSub Int.reduceAdd Int.reduceMul Int.reducePow Option.isSome_some Option.isSome_none Option.bind_some Option.map_some Option.map_none Option.toList_some Option.toList_none true_or or_true or_false false_or Bool.not_true Bool.not_false Bool.not_eq_true Bool.false_eq_true Bool.not_not false_implies true_implies implies_true Nat.zero_add Nat.add_zero Nat.mul_one Bool.not_eq_true' Bool.true_eq_false Bool.and_true Bool.true_and Bool.and_false Bool.false_and Bool.or_true Bool.true_or Bool.or_false Bool.false_or Option.isNone_some Option.isNone_none Int.reduceBEq Int.reduceBNe beq_self_eq_true bne_self_eq_false beq_iff_eq not_false_eq_true not_true_eq_false Decidable.not_not bne_iff_ne ne_eq Int.toNat_natCast gt_lt ge_le c_add c_mul c_sub c_addn c_nadd c_muln c_nmul c_subn c_nsub c_divn c_modn c_div c_mod c_tdivn c_tmodn c_tdiv c_tmod c_pow c_nn c_beq c_beqn c_bne c_bnen wr64 wr32 wru64 wru32 wru16 wru8 c_if c_if1 c_if2 c_lt c_le c_eq c_ltn c_len c_nlt c_nle c_eqn m_drop m_take Nat.add_sub_cancel_left Nat.add_sub_cancel Int.reduceTMod Int.reduceTDiv Int.reduceMod Int.reduceDiv isC_some hset_ne hdel_ne hdel_hset hdel_hset_ne blkV_nset blkV_ndel hset_hdel gV_t gV_f isGdV_b isGdV_u isBV_u isGdV_g isBV_gt isBV_gf decide_true decide_false Bool.or_eq_false_iff eq_self Nat.lt_irrefl Int.lt_irrefl Nat.le_refl Int.le_refl
attribute [local go_sem high] vops_pk vops_mv vops_as vops_smv pk_and pk_or pk_gand pk_gor pk_orn pk_gorn
attribute [local go_sem] ag3 sz3 zc3 ik3 ag4 sz4 zc4 ag5 sz5 zc5 ik5 ag22 sz22 zc22 ik22 ag23 sz23 el23 zc23 is23 ag28 sz28 el28 zc28 is28 ag32 sz32 el32 zc32 is32 ag41 sz41 ea41 an41 zc41 bo41 eqb neb
abbrev W32 := BitVec 32
def pol : W32 := 0xEDB88320#32
def one32 : W32 := 0x80000000#32
/-- One bit's step. -/
def Sb (r : W32) : W32 := (r >>> 1) ^^^ (if r.getLsbD 0 then pol else 0#32)
def It : Nat → W32 → W32
  | 0, r => r
  | n + 1, r => Sb (It n r)
theorem xac (a b c d : W32) : a ^^^ b ^^^ (c ^^^ d) = a ^^^ c ^^^ (b ^^^ d) := by
  rw [BitVec.xor_assoc, BitVec.xor_assoc, ← BitVec.xor_assoc b c d, BitVec.xor_comm b c, BitVec.xor_assoc c b d]
theorem ite_xor (p q : Bool) (x : W32) : (if (p ^^ q) then x else 0#32) = (if p then x else 0#32) ^^^ (if q then x else 0#32) := by
  cases p <;> cases q <;> simp
theorem Sb_xor (a b : W32) : Sb (a ^^^ b) = Sb a ^^^ Sb b := by
  unfold Sb
  rw [BitVec.ushiftRight_xor_distrib, BitVec.getLsbD_xor, ite_xor, xac]
theorem Sb_zero : Sb 0#32 = 0#32 := by decide
theorem It_xor (n : Nat) (a b : W32) : It n (a ^^^ b) = It n a ^^^ It n b := by
  induction n with
  | zero => rfl
  | succ n ih => rw [It, It, It, ih, Sb_xor]
theorem It_zero (n : Nat) : It n 0#32 = 0#32 := by
  induction n with
  | zero => rfl
  | succ n ih => rw [It, ih, Sb_zero]
theorem It_add (m n : Nat) (r : W32) : It (m + n) r = It m (It n r) := by
  induction m with
  | zero => rw [Nat.zero_add]; rfl
  | succ m ih => rw [Nat.add_right_comm, It, It, ih]
theorem It_S (n : Nat) (r : W32) : It n (Sb r) = Sb (It n r) := by
  rw [← show It 1 r = Sb r from rfl, ← It_add, Nat.add_comm, It_add]; rfl
theorem Sb_inj {a : W32} (h : Sb a = 0#32) : a = 0#32 := by
  unfold Sb at h
  have hm : ((a >>> 1) ^^^ (if a.getLsbD 0 then pol else 0#32)).getLsbD 31 = false := by rw [h]; rfl
  have h0 : a.getLsbD 0 = false := by
    cases hb : a.getLsbD 0 with
    | false => rfl
    | true =>
      rw [hb, BitVec.getLsbD_xor, BitVec.getLsbD_ushiftRight, BitVec.getLsbD_of_ge a 32 (Nat.le_refl _)] at hm
      exact absurd hm (by decide)
  rw [h0] at h
  simp only [Bool.false_eq_true, if_false, BitVec.xor_zero] at h
  apply BitVec.eq_of_getLsbD_eq
  intro i hi
  rw [BitVec.getLsbD_zero]
  cases i with
  | zero => exact h0
  | succ i =>
    have := congrArg (fun z : W32 => z.getLsbD i) h
    simp only [BitVec.getLsbD_ushiftRight, BitVec.getLsbD_zero] at this
    rwa [Nat.add_comm] at this
theorem It_inj {n : Nat} {a : W32} (h : It n a = 0#32) : a = 0#32 := by
  induction n with
  | zero => exact h
  | succ n ih => exact ih (Sb_inj h)
/-! ### four bits at once -/
def nibs : List Nat := [0, 498536548, 997073096, 651767980, 1994146192, 1802195444, 1303535960, 1342533948, 3988292384, 4027552580, 3604390888, 3412177804, 2607071920, 2262029012, 2685067896, 3183342108]
def N4 (r : W32) : W32 := (r >>> 4) ^^^ BitVec.ofNat 32 (nibs.getD (r.toNat % 16) 0)
theorem Sb_low {r : W32} (h : r.getLsbD 0 = false) : Sb r = r >>> 1 := by
  unfold Sb; rw [h]; simp
theorem Sb_sh {r : W32} {k : Nat} (h : r.getLsbD k = false) : Sb (r >>> k) = r >>> (k + 1) := by
  rw [Sb_low (by rw [BitVec.getLsbD_ushiftRight]; exact h), BitVec.shiftRight_add]
theorem It_high {r : W32} (h0 : r.getLsbD 0 = false) (h1 : r.getLsbD 1 = false) (h2 : r.getLsbD 2 = false) (h3 : r.getLsbD 3 = false) : It 4 r = r >>> 4 := by
  show Sb (Sb (Sb (Sb r))) = _
  rw [Sb_low h0, Sb_sh h1, Sb_sh h2, Sb_sh h3]
theorem nib_low : ∀ x : Fin 16, It 4 (BitVec.ofNat 32 x.val) = BitVec.ofNat 32 (nibs.getD x.val 0) := by decide
theorem N4_It (r : W32) : It 4 r = N4 r := by
  have hx : r.toNat % 16 < 16 := Nat.mod_lt _ (by omega)
  obtain ⟨lo, hlo⟩ : ∃ lo, lo = BitVec.ofNat 32 (r.toNat % 16) := ⟨_, rfl⟩
  obtain ⟨hi, hhi⟩ : ∃ hi, hi = r ^^^ lo := ⟨_, rfl⟩
  have hr : r = hi ^^^ lo := by rw [hhi, BitVec.xor_assoc, BitVec.xor_self, BitVec.xor_zero]
  have hb : ∀ k, k < 4 → hi.getLsbD k = false := by
    intro k hk
    rw [hhi, BitVec.getLsbD_xor, hlo, BitVec.getLsbD_ofNat, show (16 : Nat) = 2 ^ 4 from rfl, Nat.testBit_mod_two_pow]
    simp [hk, show k < 32 by omega, BitVec.getLsbD]
  have hl4 : lo >>> 4 = 0#32 := by
    apply BitVec.eq_of_toNat_eq
    rw [BitVec.toNat_ushiftRight, hlo, BitVec.toNat_ofNat, Nat.shiftRight_eq_div_pow]
    rw [Nat.mod_eq_of_lt (by omega : r.toNat % 16 < 2 ^ 32)]
    simp
  have hlow := nib_low ⟨r.toNat % 16, hx⟩
  simp only [← hlo] at hlow
  unfold N4
  have h1 : r >>> 4 = hi >>> 4 := by
    rw [hr, BitVec.ushiftRight_xor_distrib, hl4, BitVec.xor_zero]
  rw [h1, ← hlow]
  conv => lhs; rw [hr]
  rw [It_xor, It_high (hb 0 (by omega)) (hb 1 (by omega)) (hb 2 (by omega)) (hb 3 (by omega))]
/-! ### rows of bytes -/
def stepB (r : W32) (c : Nat) : W32 := It 8 (r ^^^ BitVec.ofNat 32 c)
def reg (r : W32) (bs : List Nat) : W32 := bs.foldl stepB r
/-- The sum of bytes behind others. -/
def crcU (s : W32) (bs : List Nat) : W32 := ~~~ (reg (~~~ s) bs)
theorem stepB_N4 (r : W32) (c : Nat) : stepB r c = N4 (N4 (r ^^^ BitVec.ofNat 32 c)) := by
  rw [← N4_It, ← N4_It, ← It_add]; rfl
theorem reg_append (r : W32) (a b : List Nat) : reg r (a ++ b) = reg (reg r a) b := List.foldl_append
theorem reg_xor (r q : W32) (b : List Nat) : reg (r ^^^ q) b = It (8 * b.length) r ^^^ reg q b := by
  induction b generalizing r q with
  | nil => rfl
  | cons c b ih =>
    show reg (stepB (r ^^^ q) c) b = _
    have : stepB (r ^^^ q) c = It 8 r ^^^ stepB q c := by
      unfold stepB; rw [BitVec.xor_assoc, It_xor]
    rw [this, ih, ← It_add, List.length_cons, Nat.mul_add, Nat.mul_one]; rfl
theorem reg_zero (n : Nat) (r : W32) : reg r (List.replicate n 0) = It (8 * n) r := by
  induction n generalizing r with
  | zero => rfl
  | succ n ih =>
    rw [List.replicate_succ]
    show reg (stepB r 0) _ = _
    rw [ih, Nat.mul_add, It_add]
    congr 1
    unfold stepB; simp
theorem not_xor (a b : W32) : ~~~ (a ^^^ b) = ~~~ a ^^^ b := by
  rw [← BitVec.xor_allOnes, ← BitVec.xor_allOnes, BitVec.xor_assoc, BitVec.xor_assoc, BitVec.xor_comm b]
theorem crcU_append (s : W32) (a b : List Nat) : crcU s (a ++ b) = crcU (crcU s a) b := by
  unfold crcU; rw [reg_append, BitVec.not_not]
/-! ### products -/
def pmul (a b : W32) : Nat → W32
  | 0 => 0#32
  | i + 1 => pmul a b i ^^^ (if a.getLsbD (31 - i) then It i b else 0#32)
def mulP (a b : W32) : W32 := pmul a b 32
theorem part_xor (a a' b : W32) (i : Nat) : pmul (a ^^^ a') b i = pmul a b i ^^^ pmul a' b i := by
  induction i with
  | zero => simp [pmul]
  | succ i ih => rw [pmul, pmul, pmul, ih, BitVec.getLsbD_xor, ite_xor, xac]
theorem It_ite (p : Bool) (n : Nat) (x : W32) : It n (if p then x else 0#32) = if p then It n x else 0#32 := by
  cases p
  · exact It_zero n
  · rfl
theorem part_It (a b : W32) (n i : Nat) : pmul a (It n b) i = It n (pmul a b i) := by
  induction i with
  | zero => exact (It_zero n).symm
  | succ i ih => rw [pmul, pmul, ih, It_xor, It_ite, ← It_add, ← It_add, Nat.add_comm i n]
theorem part_xor2 (a b b' : W32) (i : Nat) : pmul a (b ^^^ b') i = pmul a b i ^^^ pmul a b' i := by
  induction i with
  | zero => simp [pmul]
  | succ i ih =>
    rw [pmul, pmul, pmul, ih, It_xor, ← xac]
    congr 1
    cases a.getLsbD (31 - i) <;> simp
theorem mul_It (a b : W32) (n : Nat) : mulP a (It n b) = It n (mulP a b) := part_It a b n 32
theorem part_one (b : W32) : ∀ i, pmul one32 b (i + 1) = b
  | 0 => by rw [pmul, pmul, show one32.getLsbD (31 - 0) = true from rfl, if_pos rfl, BitVec.zero_xor]; rfl
  | i + 1 => by
    have h : one32.getLsbD (31 - (i + 1)) = false := by
      rcases Nat.lt_or_ge (i + 1) 32 with h | h
      · have : ∀ k : Fin 31, one32.getLsbD k.val = false := by decide
        exact this ⟨31 - (i + 1), by omega⟩
      · rw [show 31 - (i + 1) = 0 by omega]; rfl
    rw [pmul, part_one b i, h]; simp
theorem mul_one32 (b : W32) : mulP one32 b = b := part_one b 31
theorem It_one (i : Nat) (hi : i < 32) : It i one32 = one32 >>> i := by
  have : ∀ k : Fin 32, It k.val one32 = one32 >>> k.val := by decide
  exact this ⟨i, hi⟩
theorem one_bit (i k : Nat) (hi : i < 32) : (It i one32).getLsbD k = decide (i + k = 31) := by
  rw [It_one i hi, BitVec.getLsbD_ushiftRight]
  rcases Nat.lt_or_ge (i + k) 32 with h | h
  · have : ∀ j : Fin 32, one32.getLsbD j.val = decide (j.val = 31) := by decide
    exact this ⟨i + k, h⟩
  · rw [BitVec.getLsbD_of_ge _ _ h]; simp; omega
theorem part_bits (a : W32) (i k : Nat) (hi : i ≤ 32) (hk : k < 32) : (pmul a one32 i).getLsbD k = (decide (31 - k < i) && a.getLsbD k) := by
  induction i with
  | zero => simp [pmul]
  | succ i ih =>
    rw [pmul, BitVec.getLsbD_xor, ih (by omega)]
    cases hb : a.getLsbD (31 - i) with
    | true =>
      rw [if_pos rfl, one_bit i k (by omega)]
      by_cases h : i + k = 31
      · obtain rfl : k = 31 - i := by omega
        rw [hb]
        simp [show 31 - (31 - i) = i by omega, h]
      · simp only [h, decide_false, Bool.xor_false]
        congr 1
        simp only [decide_eq_decide]; omega
    | false =>
      simp only [Bool.false_eq_true, if_false, BitVec.getLsbD_zero, Bool.xor_false]
      by_cases h : k = 31 - i
      · subst h; rw [hb]; simp
      · congr 1
        simp only [decide_eq_decide]; omega
theorem mul_r1 (a : W32) : mulP a one32 = a := by
  apply BitVec.eq_of_getLsbD_eq
  intro k hk
  rw [mulP, part_bits a 32 k (Nat.le_refl _) hk]
  simp; omega
theorem mul_pol (b : W32) : mulP pol b = It 32 b := by
  have hone : mulP pol one32 = It 32 one32 := by rw [mul_r1]; decide
  have hp : ∀ i, mulP pol (pmul b one32 i) = It 32 (pmul b one32 i) := by
    intro i
    induction i with
    | zero => rw [pmul, It_zero, mulP, ← It_zero 1, part_It, It_zero 1]; have : ∀ j, pmul pol 0#32 j = 0#32 := fun j => by
                induction j with
                | zero => rfl
                | succ j ih => rw [pmul, ih, It_zero]; simp
              rw [this]; rfl
    | succ i ih =>
      rw [pmul, mulP, part_xor2, It_xor, ← mulP, ← mulP, ih]
      congr 1
      cases b.getLsbD (31 - i) with
      | true => rw [if_pos rfl, mul_It, hone, ← It_add, ← It_add, Nat.add_comm]
      | false =>
        have : ∀ j, pmul pol 0#32 j = 0#32 := fun j => by
          induction j with
          | zero => rfl
          | succ j ih => rw [pmul, ih, It_zero]; simp
        simp only [Bool.false_eq_true, if_false]
        rw [mulP, this, It_zero]
  have := hp 32
  rwa [← mulP, mul_r1] at this
theorem part_shift (a b : W32) (i : Nat) (hi : i ≤ 31) : pmul (a >>> 1) b (i + 1) = Sb (pmul a b i) := by
  induction i with
  | zero =>
    rw [pmul, pmul, pmul, BitVec.getLsbD_ushiftRight, BitVec.getLsbD_of_ge a _ (by omega)]; simp [Sb_zero]
  | succ i ih =>
    rw [pmul, ih (by omega), pmul, Sb_xor, BitVec.getLsbD_ushiftRight, show 1 + (31 - (i + 1)) = 31 - i by omega]
    congr 1
    exact (It_ite _ 1 (It i b)).symm
theorem mul_S (a b : W32) : mulP (Sb a) b = Sb (mulP a b) := by
  have h1 : mulP (Sb a) b = mulP (a >>> 1) b ^^^ mulP (if a.getLsbD 0 then pol else 0#32) b := by
    unfold Sb; exact part_xor _ _ _ _
  have h2 : mulP (if a.getLsbD 0 then pol else 0#32) b = if a.getLsbD 0 then It 32 b else 0#32 := by
    cases a.getLsbD 0 with
    | true => exact mul_pol b
    | false =>
      have : ∀ j, pmul 0#32 b j = 0#32 := fun j => by
        induction j with
        | zero => rfl
        | succ j ih => rw [pmul, ih]; simp
      exact this 32
  have h3 : Sb (mulP a b) = Sb (pmul a b 31) ^^^ Sb (if a.getLsbD 0 then It 31 b else 0#32) := Sb_xor _ _
  rw [h1, h2, h3, show mulP (a >>> 1) b = Sb (pmul a b 31) from part_shift a b 31 (by omega)]
  congr 1
  exact (It_ite _ 1 (It 31 b)).symm
theorem mul_It_one (n : Nat) (b : W32) : mulP (It n one32) b = It n b := by
  induction n with
  | zero => exact mul_one32 b
  | succ n ih => rw [It, mul_S, ih]; rfl
/-- How the product is reckoned: bits that are left are what is left. -/
theorem part_stop (a b : W32) (i : Nat) (hi : i ≤ 32) (h : a <<< i = 0#32) : pmul a b i = mulP a b := by
  have hz : ∀ j, i ≤ j → j < 32 → a.getLsbD (31 - j) = false := by
    intro j h1 h2
    have := congrArg (fun z : W32 => z.getLsbD (31 - j + i)) h
    simp only [BitVec.getLsbD_shiftLeft, BitVec.getLsbD_zero] at this
    simpa [show 31 - j + i < 32 by omega] using this
  have : ∀ d, i + d ≤ 32 → pmul a b i = pmul a b (i + d) := by
    intro d
    induction d with
    | zero => intro; rfl
    | succ d ih =>
      intro h
      rw [← Nat.add_assoc, pmul, hz (i + d) (by omega) (by omega), ih (by omega)]; simp
  rw [this (32 - i) (by omega), show i + (32 - i) = 32 by omega]; rfl
theorem shl32 (a : W32) : a <<< 32 = 0#32 := by
  apply BitVec.eq_of_getLsbD_eq; intro i hi; simp [hi]
end Go.Proofs.YtbmidddpddiopaaDoor.VCrcP
