/- what package match finds, in plain Lean: its tokens are the bytes; how many they are. -/
import Derived.Test.YtipeglbklhincaaDoorProg
import Derived.Test.YtipeglbklhincaaDoorAbV16
import Derived.Test.YtipeglbklhincaaDoorAbFacts
import Derived.Test.YtipeglbklhincaaDoorAbVG
import Derived.Test.YtipeglbklhincaaDoorAbVRow1
import Derived.Test.YtipeglbklhincaaDoorAbVSame
import Derived.Test.YtipeglbklhincaaDoorAbVMatch
import Derived.Test.YtipeglbklhincaaDoorAbVMatchB
import Derived.Test.YtipeglbklhincaaDoorAbVMatchC
import Derived.Test.YtipeglbklhincaaDoorAbVMatchD
import Derived.Test.YtipeglbklhincaaDoorAbVFind
import Derived.Test.YtipeglbklhincaaDoorAbVFindB
import Derived.Test.YtipeglbklhincaaDoorAbVFindP
import Derived.Test.YtipeglbklhincaaDoorAbVFindC
import Derived.Test.YtipeglbklhincaaDoorAbVLaw
import Derived.KernelRfl
import Derived.Laws.BitsAllLaws
set_option linter.unusedVariables false
set_option linter.unusedSimpArgs false
set_option maxRecDepth 100000
set_option maxHeartbeats 4000000
namespace Go.Proofs.YtipeglbklhincaaDoor.VFindS
open Go.RowKit Go.Proofs.AbM Go.Proofs.YtipeglbklhincaaDoor.Facts Go.Proofs.YtipeglbklhincaaDoor.VG Go.Proofs.YtipeglbklhincaaDoor.VRow1 Go.Proofs.YtipeglbklhincaaDoor.VSame Go.Proofs.YtipeglbklhincaaDoor.VMatch Go.Proofs.YtipeglbklhincaaDoor.VMatchB Go.Proofs.YtipeglbklhincaaDoor.VMatchC Go.Proofs.YtipeglbklhincaaDoor.VMatchD Go.Proofs.YtipeglbklhincaaDoor.VFind Go.Proofs.YtipeglbklhincaaDoor.VFindB Go.Proofs.YtipeglbklhincaaDoor.VFindP Go.Proofs.YtipeglbklhincaaDoor.VFindC Go.Proofs.YtipeglbklhincaaDoor.VLaw
attribute [local go_sem] vawp_skip_eq vawp_seq_eq vawp_region_eq vawp_cond_g vawp_block_eq vawp_exit_eq vawp_ret_eq thenV_ret thenV_exit thenV_normal inBlockV_normal inBlockV_ret inBlockV_exit resKV_nil resKV_tmp resKV_cell oneV_one oneV_nil oneV_more initV_nil initV_cons updV_at evv_tmp evv_func evv_global evv_int evv_bool evv_str evv_snil evv_pnil evv_agg ofV3_int ofV3_bool ofV3_str ofV3_snil ofV3_pnil vok_tmp vok_func vok_global vok_int vok_bool vok_str vok_snil vok_pnil vok_agg cloV3_int cloV3_bool cloV3_str cloV3_snil cloV3_pnil voks_nil voks_cons scV_int scV_bool scV_str isBlV_b isBV_t isBV_f lwV_none lwV_sc lwV_agg lwV_tup lwV_isl lwV_own lwV_op lwV_ip lwV_fn lwV_junk vops_nil vops_n vops_s gsN_eq vop dstOk_some dstOk_none pkV_b blkV_set eRead_f eRead_t vLoad_op vLoad_ip vStore_op cells_sc cells_isl cells_own cells_op cells_ip cells_fn cells_agg parts_sc parts_isl parts_own parts_op parts_ip parts_fn parts_agg one_sc one_isl one_own one_op one_ip one_fn vField_op vField_ip ePart_f ePart_t vFieldV_agg vIx_isl vIx_own vIx_op vIx_ip vIxV_agg vIxV_str vLen_str vLen_isl vLen_own vLen_agg bndE_none bndE_int vSlice_isl vSlice_str vBin_add vBin_sub vBin_mul vBin_quo vBin_rem vBin_and vBin_or vBin_xor vBin_andNot vBin_eql vBin_neq vBin_lss vBin_leq vBin_gtr vBin_geq vBin_shr_i8 vBin_shl_i8 vBin_shr_i16 vBin_shl_i16 vBin_shr_i32 vBin_shl_i32 vBin_shr_i64 vBin_shl_i64 vBin_shr_u8 vBin_shl_u8 vBin_shr_u16 vBin_shl_u16 vBin_shr_u32 vBin_shl_u32 vBin_shr_u64 vBin_shl_u64 vBin_seq vBin_sne vBin_isln vBin_opn vBin_ipn ex_sc ex_sc2 ex_sc3 ex_tup calleeV wSc_pb wSc_pi wSc_not wSc_neg wSc_com wSc_min2 wSc_max2 vfold_nil vfold_one vfold_cons vfill_nil vfill_e eFill_s vBuild vBox vAlloc setV_map setV_zs setV_zn setV_s hset_hset eConv_ss vConv_e iv_eq ivI_eq ex_get ex_getI set_iv set_ivI okNil isNilV isSlV hdel_at hset_at List.map_toArray List.map_cons List.map_nil List.nil_append List.cons_append List.append_nil List.toList_toArray List.getElem?_toArray List.getElem_toArray List.getElem_cons_zero List.getElem_cons_succ List.getElem?_cons_zero List.getElem?_cons_succ List.set_cons_zero List.set_cons_succ List.set_set List.length_cons List.length_nil List.length_set List.length_map List.all_cons List.all_nil List.drop_zero List.drop_succ_cons List.take_succ_cons List.take_zero List.flatMap_cons Bool.and_eq_true true_and and_true if_true if_false ite_true ite_false forall_eq' forall_eq exists_eq_left exists_eq_left' exists_eq' Value.bool.injEq Value.int.injEq Value.string.injEq Value.pointer.injEq Option.some.injEq AV.sc.injEq AV.op.injEq AV.ip.injEq AV.own.injEq AV.agg.injEq VB.cells.injEq VB.iter.injEq Prod.mk.injEq decide_eq_true_eq decide_eq_false_iff_not Nat.reduceEqDiff Nat.reduceLT Nat.reduceLeDiff Nat.reduceSub Nat.reduceBEq reduceIte Int.reduceLE Int.reduceLT Int.reduceToNat Int.reduceNeg Int.reduceEq Int.reduceNe Int.cast_ofNat_Int Nat.reduceMul Nat.reduceAdd Nat.reduceDiv Nat.reduceMod Nat.reducePow Int.reduceSub Int.reduceAdd Int.reduceMul Int.reducePow Option.isSome_some Option.isSome_none Option.bind_some Option.map_some Option.map_none Option.toList_some Option.toList_none true_or or_true or_false false_or Bool.not_true Bool.not_false Bool.not_eq_true Bool.false_eq_true Bool.not_not false_implies true_implies implies_true Nat.zero_add Nat.add_zero Nat.mul_one Bool.not_eq_true' Bool.true_eq_false Bool.and_true Bool.true_and Bool.and_false Bool.false_and Bool.or_true Bool.true_or Bool.or_false Bool.false_or Option.isNone_some Option.isNone_none Int.reduceBEq Int.reduceBNe beq_self_eq_true bne_self_eq_false beq_iff_eq not_false_eq_true not_true_eq_false Decidable.not_not bne_iff_ne ne_eq Int.toNat_natCast gt_lt ge_le c_add c_mul c_sub c_addn c_nadd c_muln c_nmul c_subn c_nsub c_divn c_modn c_div c_mod c_tdivn c_tmodn c_tdiv c_tmod c_pow c_nn c_beq c_beqn c_bne c_bnen wr64 wr32 wru64 wru32 wru16 wru8 c_if c_if1 c_if2 c_lt c_le c_eq c_ltn c_len c_nlt c_nle c_eqn m_drop m_take Nat.add_sub_cancel_left Nat.add_sub_cancel Int.reduceTMod Int.reduceTDiv Int.reduceMod Int.reduceDiv isC_some hset_ne hdel_ne hdel_hset hdel_hset_ne blkV_nset blkV_ndel hset_hdel gV_t gV_f isGdV_b isGdV_u isBV_u isGdV_g isBV_gt isBV_gf decide_true decide_false Bool.or_eq_false_iff eq_self Nat.lt_irrefl Int.lt_irrefl Nat.le_refl Int.le_refl
attribute [local go_sem high] vops_pk vops_mv vops_as vops_smv pk_and pk_or pk_gand pk_gor pk_orn pk_gorn
attribute [local go_sem] ag3 sz3 zc3 ik3 ag4 sz4 zc4 ag5 sz5 zc5 ik5 ag9 sz9 zc9 iq9 ag22 sz22 el22 zc22 is22 ag23 sz23 el23 zc23 is23 ag25 sz25 zc25 ik25 ag41 sz41 zc41 eqs41 nes41 bo41 ag44 sz44 zc44 pt44 ag45 sz45 ea45 an45 zc45 bo45 ag46 sz46 el46 zc46 is46 ag47 sz47 ea47 an47 ag49 sz49 ag55 sz55 zc55 ik55 of41_0 fd41_0 of41_1 fd41_1 of41_2 fd41_2 of49_0 fd49_0 of49_1 fd49_1 of49_2 fd49_2 of49_3 fd49_3 eqb neb
section
theorem lcp_get : ∀ (m : Nat) (xs ys : List Nat) (j : Nat), j < lcp m xs ys → xs.getD j 0 = ys.getD j 0
  | 0, _, _, _, h => by simp [lcp] at h
  | m + 1, [], ys, _, h => by cases ys <;> simp [lcp] at h
  | m + 1, x :: xs, [], _, h => by simp [lcp] at h
  | m + 1, x :: xs, y :: ys, j, h => by
    simp only [lcp] at h
    split at h
    · rename_i hx
      cases j with
      | zero => simpa using hx
      | succ j =>
        have := lcp_get m xs ys j (by omega)
        simpa using this
    · omega
theorem getD_drop {b : List Nat} {i j : Nat} : (b.drop i).getD j 0 = b.getD (i + j) 0 := by
  rw [List.getD_eq_getElem?_getD, List.getElem?_drop, ← List.getD_eq_getElem?_getD]
theorem getD_take {b : List Nat} {i j : Nat} (h : j < i) : (b.take i).getD j 0 = b.getD j 0 := by
  rw [List.getD_eq_getElem?_getD, List.getElem?_take, if_pos h, ← List.getD_eq_getElem?_getD]
theorem take_get {b : List Nat} {i : Nat} (h : i < b.length) : b.take i ++ [b.getD i 0] = b.take (i + 1) := by
  rw [List.take_succ_eq_append_getElem h, List.getD_eq_getElem?_getD, List.getElem?_eq_getElem h]; rfl
theorem copy_take {b : List Nat} {at_ k m : Nat} (hk : 1 ≤ k) (hka : k ≤ at_) (hm : m ≤ sameN b ((at_ - k : Nat) : Int) (at_ : Int)) (hat : at_ + m ≤ b.length) : ∀ j, j ≤ m → copyN (b.take at_) k j = b.take (at_ + j)
  | 0, _ => rfl
  | j + 1, hj => by
    have ih := copy_take hk hka hm hat j (by omega)
    rw [copyN, ih, show at_ + (j + 1) = at_ + j + 1 by omega, ← take_get (by omega)]
    have hl : (b.take (at_ + j)).length = at_ + j := by rw [List.length_take]; omega
    have h2 : j < lcp 258 (b.drop (at_ - k)) (b.drop at_) := by
      rw [sameN_nat (by omega) (by omega)] at hm
      omega
    have h3 := lcp_get _ _ _ _ h2
    rw [getD_drop, getD_drop] at h3
    rw [hl, getD_take (by omega), show at_ + j - k = at_ - k + j by omega, h3]
theorem findL_ok {b : List Nat} {d : Nat} {most : Int} (hmost : (b.length : Int) ≤ most) : ∀ (f at_ : Nat) (s : StF), Inv b at_ s → at_ ≤ b.length → b.length ≤ at_ + f → expT (findL b d f at_ s) most (b.take at_) = (0, b)
  | 0, at_, s, I, h1, h2 => by
    rw [findL, show at_ = b.length by omega, List.take_length]; rfl
  | f + 1, at_, s, I, h1, h2 => by
    rw [findL]
    split
    · rw [show at_ = b.length by omega, List.take_length]; rfl
    · rename_i hlt
      have hl : (b.take at_).length = at_ := by rw [List.length_take]; omega
      have hbo := bestF_ok (b := b) (d := d) I.hs I.ps
      have hle := hbo.1.le h1
      generalize bestF b at_ s.1 s.2 d = r at *
      obtain ⟨m, k⟩ := r
      simp only at hle hbo
      split
      · rw [expT_cons, if_pos rfl, if_neg (by rw [hl]; omega)]
        show expT _ most (b.take at_ ++ [b.getD at_ 0]) = _
        rw [take_get (by omega)]
        exact findL_ok hmost f (at_ + 1) _ I.note (by omega) (by omega)
      · rename_i hn
        have hm0 : ¬ m = 0 := fun hh => hn (.inl hh)
        obtain ⟨hP, h3⟩ := hbo
        have h3 : 3 ≤ m := by omega
        obtain ⟨e1, e2, e3, e4⟩ := hP.resolve_left hm0
        simp only at e1 e2 e3 e4
        rw [expT_cons, if_neg (by show ¬ ((m : Nat) : Int) = 0; omega), hl]
        have hck : ckT ⟨0, (m : Nat), (k : Nat)⟩ at_ = 0 := by
          unfold ckT
          rw [if_neg (by simp only; omega), if_neg (by simp only; omega)]
        rw [if_neg (by rw [hck]; decide), if_neg (by simp only; omega)]
        simp only [Int.toNat_natCast]
        rw [copy_take e2 e4 (by omega) hle.2 m (Nat.le_refl m)]
        have I2 := I.note.notes (m - 1)
        rw [show at_ + 1 + (m - 1) = at_ + m by omega] at I2
        exact findL_ok hmost f (at_ + m) _ I2 hle.2 (by omega)
theorem findF_ok (b : List Nat) (d : Nat) {most : Int} (hmost : (b.length : Int) ≤ most) : expT (findF b d) most [] = (0, b) :=
  findL_ok hmost b.length 0 (st0 b.length) (Inv.st0 b) (Nat.zero_le _) (by omega)
theorem findL_cnt {b : List Nat} {d : Nat} : ∀ (f at_ : Nat) (s : StF), Inv b at_ s → at_ ≤ b.length → (findL b d f at_ s).length + at_ ≤ b.length
  | 0, at_, s, I, h1 => by rw [findL]; simpa using h1
  | f + 1, at_, s, I, h1 => by
    rw [findL]
    split
    · simpa using h1
    · have hbo := bestF_ok (b := b) (d := d) I.hs I.ps
      have hle := hbo.1.le h1
      generalize bestF b at_ s.1 s.2 d = r at *
      obtain ⟨m, k⟩ := r
      simp only at hle hbo
      split
      · have := findL_cnt (d := d) f (at_ + 1) _ I.note (by omega)
        simp only [List.length_cons]; omega
      · rename_i hn
        have hm0 : ¬ m = 0 := fun hh => hn (.inl hh)
        have I2 := I.note.notes (m - 1)
        rw [show at_ + 1 + (m - 1) = at_ + m by omega] at I2
        have := findL_cnt (d := d) f (at_ + m) _ I2 hle.2
        simp only [List.length_cons]; omega
theorem findF_cnt (b : List Nat) (d : Nat) : (findF b d).length ≤ b.length := findL_cnt b.length 0 (st0 b.length) (Inv.st0 b) (Nat.zero_le _)
theorem findL_bytes {b : List Nat} {d : Nat} : ∀ (f at_ : Nat) (s : StF), Inv b at_ s → at_ ≤ b.length → b.length ≤ at_ + f → bytesT (findL b d f at_ s) + at_ = b.length
  | 0, at_, s, I, h1, h2 => by rw [findL]; show 0 + at_ = _; omega
  | f + 1, at_, s, I, h1, h2 => by
    rw [findL]
    split
    · show 0 + at_ = _; omega
    · have hbo := bestF_ok (b := b) (d := d) I.hs I.ps
      have hle := hbo.1.le h1
      generalize bestF b at_ s.1 s.2 d = r at *
      obtain ⟨m, k⟩ := r
      simp only at hle hbo
      split
      · have := findL_bytes (d := d) f (at_ + 1) _ I.note (by omega) (by omega)
        show 1 + bytesT _ + at_ = _
        omega
      · rename_i hn
        have hm0 : ¬ m = 0 := fun hh => hn (.inl hh)
        have I2 := I.note.notes (m - 1)
        rw [show at_ + 1 + (m - 1) = at_ + m by omega] at I2
        have := findL_bytes (d := d) f (at_ + m) _ I2 hle.2 (by omega)
        have ht : tokB ⟨0, (m : Nat), (k : Nat)⟩ = m := by
          unfold tokB
          rw [if_neg (by show ¬ ((m : Nat) : Int) = 0; omega)]
          simp only
          omega
        show tokB _ + bytesT (findL b d f (at_ + m) (notesF b at_ (m - 1) (noteS b at_ s))) + at_ = _
        rw [ht]; omega
theorem findF_bytes (b : List Nat) (d : Nat) : bytesT (findF b d) = b.length := by
  have := findL_bytes (b := b) (d := d) b.length 0 (st0 b.length) (Inv.st0 b) (Nat.zero_le _) (by omega)
  exact this
/-! ### level 0 -/
theorem bestF_zero (b : List Nat) (at_ : Nat) (g : Nat → Nat) (ps : List Nat) : bestF b at_ g ps 0 = (0, 0) := by
  unfold bestF
  split
  · rfl
  · rfl
theorem findL_zero {b : List Nat} : ∀ (f at_ : Nat) (s : StF), at_ ≤ b.length → b.length ≤ at_ + f → (findL b 0 f at_ s).length + at_ = b.length
  | 0, at_, s, h1, h2 => by rw [findL]; show 0 + at_ = _; omega
  | f + 1, at_, s, h1, h2 => by
    rw [findL]
    split
    · show 0 + at_ = _; omega
    · rw [bestF_zero, if_pos (.inl rfl), List.length_cons]
      have := findL_zero (b := b) f (at_ + 1) (noteS b at_ s) (by omega) (by omega)
      omega
theorem findF_zero (b : List Nat) : (findF b 0).length = b.length := findL_zero (b := b) b.length 0 (st0 b.length) (Nat.zero_le _) (by omega)
/-! ### a row of one byte -/
theorem lcp_rep (c : Nat) : ∀ (m x y : Nat), lcp m (List.replicate x c) (List.replicate y c) = min (min x y) m
  | 0, _, _ => by simp [lcp]
  | m + 1, 0, y => by cases y <;> simp [lcp, List.replicate_succ]
  | m + 1, x + 1, 0 => by simp [lcp, List.replicate_succ]
  | m + 1, x + 1, y + 1 => by
    simp only [List.replicate_succ, lcp, if_true, lcp_rep c m x y]
    omega
theorem same_rep {c n i k : Nat} (hi : i ≤ k) (hk : k ≤ n) : sameN (List.replicate n c) (i : Nat) (k : Nat) = min (n - k) 258 := by
  rw [sameN_nat (by simp; omega) (by simp; omega), List.drop_replicate, List.drop_replicate, lcp_rep]
  omega
theorem bestL_rep {c n at_ : Nat} {ps : List Nat} (hat : at_ ≤ n) (hps : ∀ i, ps.getD i 0 ≤ at_) : ∀ (f pl d : Nat), pl ≤ at_ → (bestL (List.replicate n c) at_ ps f pl (min (n - at_) 258) d).1 = min (n - at_) 258
  | 0, _, _, _ => rfl
  | f + 1, pl, d, hp => by
    rw [bestL_s]
    split
    · rfl
    · rw [same_rep (by omega) hat, if_neg (by omega)]
      exact bestL_rep hat hps f _ d (hps _)
theorem hash_rep {c n i j : Nat} (hi : i + 2 < n) (hj : j + 2 < n) : hashN (List.replicate n c) i = hashN (List.replicate n c) j := by
  have hg : ∀ x, x < n → (List.replicate n c).getD x 0 = c := fun x hx => by
    rw [List.getD_eq_getElem?_getD, List.getElem?_replicate, if_pos hx]; rfl
  unfold hashN
  rw [hg i (by omega), hg (i + 1) (by omega), hg (i + 2) (by omega), hg j (by omega), hg (j + 1) (by omega), hg (j + 2) (by omega)]
theorem bestF_rep {c n at_ d : Nat} {g : Nat → Nat} {ps : List Nat} (h1 : at_ + 3 ≤ n) (hn : n ≤ 1023) (hd : 1 ≤ d) (hg : ∀ x, g x ≤ at_) (hps : ∀ i, ps.getD i 0 ≤ at_) (hx : 1 ≤ g (hashN (List.replicate n c) at_)) : (bestF (List.replicate n c) at_ g ps d).1 = min (n - at_) 258 := by
  unfold bestF
  rw [if_neg (by simp; omega)]
  obtain ⟨d, rfl⟩ : ∃ d', d = d' + 1 := ⟨d - 1, by omega⟩
  have hgx := hg (hashN (List.replicate n c) at_)
  generalize g (hashN (List.replicate n c) at_) = pl at *
  rw [bestL_s, if_neg (by omega), same_rep (by omega) (by omega), if_pos (by omega)]
  have := bestL_rep (c := c) (n := n) (by omega) hps d (ps.getD (pl - 1) 0) (at_ - (pl - 1)) (hps _)
  unfold cut3
  rw [if_neg (by rw [this]; omega), this]
theorem note_hash {b : List Nat} {x i : Nat} {s : StF} (h : 1 ≤ s.1 x) : 1 ≤ (noteS b i s).1 x := by
  unfold noteS
  split
  · exact h
  · show 1 ≤ upN s.1 _ _ x
    unfold upN
    split <;> omega
theorem notes_hash {b : List Nat} {x at_ : Nat} {s : StF} (h : 1 ≤ s.1 x) : ∀ k, 1 ≤ (notesF b at_ k s).1 x
  | 0 => h
  | k + 1 => note_hash (notes_hash h k)
theorem findL_rep {c n d : Nat} (hn : n ≤ 1023) (hd : 1 ≤ d) : ∀ (f at_ : Nat) (s : StF), Inv (List.replicate n c) at_ s → at_ ≤ n → (3 ≤ n → 1 ≤ s.1 (hashN (List.replicate n c) 0)) → (findL (List.replicate n c) d f at_ s).length ≤ (n - at_ + 257) / 258 + 1
  | 0, at_, s, I, h1, hx => by rw [findL]; simp
  | f + 1, at_, s, I, h1, hx => by
    by_cases h3 : at_ + 3 ≤ n
    · rw [findL, if_neg (by simp; omega)]
      have hb := bestF_rep (c := c) (n := n) (d := d) h3 hn hd I.hs I.ps (by rw [hash_rep (j := 0) (by omega) (by omega)]; exact hx (by omega))
      have I1 := I.note
      have hlit : ¬ litT (List.replicate n c) d at_ (bestF (List.replicate n c) at_ s.1 s.2 d) (noteS (List.replicate n c) at_ s) := by
        rintro (hh | ⟨_, hh⟩)
        · omega
        · unfold laterF at hh
          split at hh
          · cases hh
          · have hq := (bestF_ok (b := List.replicate n c) (d := d) I1.hs I1.ps).1.le (by simp; omega)
            simp only [List.length_replicate, decide_eq_true_eq] at hq hh
            omega
      rw [if_neg hlit, List.length_cons]
      have I2 := I1.notes ((bestF (List.replicate n c) at_ s.1 s.2 d).1 - 1)
      rw [hb] at I2 ⊢
      rw [show at_ + 1 + (min (n - at_) 258 - 1) = at_ + min (n - at_) 258 by omega] at I2
      have := findL_rep (c := c) hn hd f (at_ + min (n - at_) 258) _ I2 (by omega) (fun h => notes_hash (note_hash (hx h)) _)
      omega
    · have := findL_cnt (b := List.replicate n c) (d := d) (f + 1) at_ s I (by simpa using h1)
      simp only [List.length_replicate] at this
      omega
theorem findF_rep {c n d : Nat} (hn : n ≤ 1023) (hd : 1 ≤ d) : (findF (List.replicate n c) d).length ≤ 4 + n / 258 := by
  unfold findF
  rw [List.length_replicate]
  cases n with
  | zero => simp [findL]
  | succ n =>
    have I0 := Inv.st0 (List.replicate (n + 1) c)
    rw [List.length_replicate] at I0
    have hb : bestF (List.replicate (n + 1) c) 0 (st0 (n + 1)).1 (st0 (n + 1)).2 d = (0, 0) := by
      unfold bestF
      split
      · rfl
      · cases d with
        | zero => rfl
        | succ d => rw [bestL_s, if_pos (.inl rfl)]; rfl
    rw [findL, if_neg (by simp), hb, if_pos (.inl rfl), List.length_cons]
    have := findL_rep (c := c) hn hd n (0 + 1) _ I0.note (by omega) (fun h => by
      unfold noteS
      rw [if_neg (by simp; omega)]
      show 1 ≤ upN _ _ _ _
      unfold upN
      rw [if_pos rfl]; omega)
    omega
end
end Go.Proofs.YtipeglbklhincaaDoor.VFindS
