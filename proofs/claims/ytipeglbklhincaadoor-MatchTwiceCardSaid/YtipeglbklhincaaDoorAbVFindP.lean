/- what package match finds, in plain Lean. -/
import Derived.Test.YtipeglbklhincaaDoorProg
import Derived.Test.YtipeglbklhincaaDoorAbV16
import Derived.Test.YtipeglbklhincaaDoorAbFacts
import Derived.Test.YtipeglbklhincaaDoorAbVG
import Derived.Test.YtipeglbklhincaaDoorAbVRow1
import Derived.Test.YtipeglbklhincaaDoorAbVSame
import Derived.Test.YtipeglbklhincaaDoorAbVMatch
import Derived.Test.YtipeglbklhincaaDoorAbVMatchB
import Derived.Test.YtipeglbklhincaaDoorAbVFind
import Derived.Test.YtipeglbklhincaaDoorAbVFindB
import Derived.KernelRfl
import Derived.Laws.BitsAllLaws
set_option linter.unusedVariables false
set_option linter.unusedSimpArgs false
set_option maxRecDepth 100000
set_option maxHeartbeats 4000000
namespace Go.Proofs.YtipeglbklhincaaDoor.VFindP
open Go.RowKit Go.Proofs.AbM Go.Proofs.YtipeglbklhincaaDoor.Facts Go.Proofs.YtipeglbklhincaaDoor.VG Go.Proofs.YtipeglbklhincaaDoor.VRow1 Go.Proofs.YtipeglbklhincaaDoor.VSame Go.Proofs.YtipeglbklhincaaDoor.VMatch Go.Proofs.YtipeglbklhincaaDoor.VMatchB Go.Proofs.YtipeglbklhincaaDoor.VFind Go.Proofs.YtipeglbklhincaaDoor.VFindB
attribute [local go_sem] vawp_skip_eq vawp_seq_eq vawp_region_eq vawp_cond_g vawp_block_eq vawp_exit_eq vawp_ret_eq thenV_ret thenV_exit thenV_normal inBlockV_normal inBlockV_ret inBlockV_exit resKV_nil resKV_tmp resKV_cell oneV_one oneV_nil oneV_more initV_nil initV_cons updV_at evv_tmp evv_func evv_global evv_int evv_bool evv_str evv_snil evv_pnil evv_agg ofV3_int ofV3_bool ofV3_str ofV3_snil ofV3_pnil vok_tmp vok_func vok_global vok_int vok_bool vok_str vok_snil vok_pnil vok_agg cloV3_int cloV3_bool cloV3_str cloV3_snil cloV3_pnil voks_nil voks_cons scV_int scV_bool scV_str isBlV_b isBV_t isBV_f lwV_none lwV_sc lwV_agg lwV_tup lwV_isl lwV_own lwV_op lwV_ip lwV_fn lwV_junk vops_nil vops_n vops_s gsN_eq vop dstOk_some dstOk_none pkV_b blkV_set eRead_f eRead_t vLoad_op vLoad_ip vStore_op cells_sc cells_isl cells_own cells_op cells_ip cells_fn cells_agg parts_sc parts_isl parts_own parts_op parts_ip parts_fn parts_agg one_sc one_isl one_own one_op one_ip one_fn vField_op vField_ip ePart_f ePart_t vFieldV_agg vIx_isl vIx_own vIx_op vIx_ip vIxV_agg vIxV_str vLen_str vLen_isl vLen_own vLen_agg bndE_none bndE_int vSlice_isl vSlice_str vBin_add vBin_sub vBin_mul vBin_quo vBin_rem vBin_and vBin_or vBin_xor vBin_andNot vBin_eql vBin_neq vBin_lss vBin_leq vBin_gtr vBin_geq vBin_shr_i8 vBin_shl_i8 vBin_shr_i16 vBin_shl_i16 vBin_shr_i32 vBin_shl_i32 vBin_shr_i64 vBin_shl_i64 vBin_shr_u8 vBin_shl_u8 vBin_shr_u16 vBin_shl_u16 vBin_shr_u32 vBin_shl_u32 vBin_shr_u64 vBin_shl_u64 vBin_seq vBin_sne vBin_isln vBin_opn vBin_ipn ex_sc ex_sc2 ex_sc3 ex_tup calleeV wSc_pb wSc_pi wSc_not wSc_neg wSc_com wSc_min2 wSc_max2 vfold_nil vfold_one vfold_cons vfill_nil vfill_e eFill_s vBuild vBox vAlloc setV_map setV_zs setV_zn setV_s hset_hset eConv_ss vConv_e iv_eq ivI_eq ex_get ex_getI set_iv set_ivI okNil isNilV isSlV hdel_at hset_at List.map_toArray List.map_cons List.map_nil List.nil_append List.cons_append List.append_nil List.toList_toArray List.getElem?_toArray List.getElem_toArray List.getElem_cons_zero List.getElem_cons_succ List.getElem?_cons_zero List.getElem?_cons_succ List.set_cons_zero List.set_cons_succ List.set_set List.length_cons List.length_nil List.length_set List.length_map List.all_cons List.all_nil List.drop_zero List.drop_succ_cons List.take_succ_cons List.take_zero List.flatMap_cons Bool.and_eq_true true_and and_true if_true if_false ite_true ite_false forall_eq' forall_eq exists_eq_left exists_eq_left' exists_eq' Value.bool.injEq Value.int.injEq Value.string.injEq Value.pointer.injEq Option.some.injEq AV.sc.injEq AV.op.injEq AV.ip.injEq AV.own.injEq AV.agg.injEq VB.cells.injEq VB.iter.injEq Prod.mk.injEq decide_eq_true_eq decide_eq_false_iff_not Nat.reduceEqDiff Nat.reduceLT Nat.reduceLeDiff Nat.reduceSub Nat.reduceBEq reduceIte Int.reduceLE Int.reduceLT Int.reduceToNat Int.reduceNeg Int.reduceEq Int.reduceNe Int.cast_ofNat_Int Nat.reduceMul Nat.reduceAdd Nat.reduceDiv Nat.reduceMod Nat.reducePow Int.reduceSub Int.reduceAdd Int.reduceMul Int.reducePow Option.isSome_some Option.isSome_none Option.bind_some Option.map_some Option.map_none Option.toList_some Option.toList_none true_or or_true or_false false_or Bool.not_true Bool.not_false Bool.not_eq_true Bool.false_eq_true Bool.not_not false_implies true_implies implies_true Nat.zero_add Nat.add_zero Nat.mul_one Bool.not_eq_true' Bool.true_eq_false Bool.and_true Bool.true_and Bool.and_false Bool.false_and Bool.or_true Bool.true_or Bool.or_false Bool.false_or Option.isNone_some Option.isNone_none Int.reduceBEq Int.reduceBNe beq_self_eq_true bne_self_eq_false beq_iff_eq not_false_eq_true not_true_eq_false Decidable.not_not bne_iff_ne ne_eq Int.toNat_natCast gt_lt ge_le c_add c_mul c_sub c_addn c_nadd c_muln c_nmul c_subn c_nsub c_divn c_modn c_div c_mod c_tdivn c_tmodn c_tdiv c_tmod c_pow c_nn c_beq c_beqn c_bne c_bnen wr64 wr32 wru64 wru32 wru16 wru8 c_if c_if1 c_if2 c_lt c_le c_eq c_ltn c_len c_nlt c_nle c_eqn m_drop m_take Nat.add_sub_cancel_left Nat.add_sub_cancel Int.reduceTMod Int.reduceTDiv Int.reduceMod Int.reduceDiv isC_some hset_ne hdel_ne hdel_hset hdel_hset_ne blkV_nset blkV_ndel hset_hdel gV_t gV_f isGdV_b isGdV_u isBV_u isGdV_g isBV_gt isBV_gf decide_true decide_false Bool.or_eq_false_iff eq_self Nat.lt_irrefl Int.lt_irrefl Nat.le_refl Int.le_refl
attribute [local go_sem high] vops_pk vops_mv vops_as vops_smv pk_and pk_or pk_gand pk_gor pk_orn pk_gorn
attribute [local go_sem] ag3 sz3 zc3 ik3 ag4 sz4 zc4 ag5 sz5 zc5 ik5 ag9 sz9 zc9 iq9 ag22 sz22 el22 zc22 is22 ag23 sz23 el23 zc23 is23 ag25 sz25 zc25 ik25 ag41 sz41 zc41 eqs41 nes41 bo41 ag44 sz44 zc44 pt44 ag45 sz45 ea45 an45 zc45 bo45 ag46 sz46 el46 zc46 is46 ag47 sz47 ea47 an47 ag49 sz49 ag55 sz55 zc55 ik55 of41_0 fd41_0 of41_1 fd41_1 of41_2 fd41_2 of49_0 fd49_0 of49_1 fd49_1 of49_2 fd49_2 of49_3 fd49_3 eqb neb
section
abbrev StF := (Nat → Nat) × List Nat
def upN (g : Nat → Nat) (x v : Nat) : Nat → Nat := fun y => if y = x then v else g y
def noteS (b : List Nat) (i : Nat) (s : StF) : StF := if b.length < i + 3 then s else (upN s.1 (hashN b i) (i + 1), s.2.set i (s.1 (hashN b i)))
def notesF (b : List Nat) (at_ : Nat) : Nat → StF → StF
  | 0, s => s
  | k + 1, s => noteS b (at_ + (k + 1)) (notesF b at_ k s)
def litT (b : List Nat) (d at_ : Nat) (r : Nat × Nat) (s1 : StF) : Prop := r.1 = 0 ∨ (4 < d ∧ laterF b at_ r.1 s1.1 s1.2 d = true)
instance {b : List Nat} {d at_ : Nat} {r : Nat × Nat} {s1 : StF} : Decidable (litT b d at_ r s1) := by unfold litT; exact inferInstance
def findL (b : List Nat) (d : Nat) : Nat → Nat → StF → List TokV
  | 0, _, _ => []
  | f + 1, at_, s => if b.length ≤ at_ then [] else
      if litT b d at_ (bestF b at_ s.1 s.2 d) (noteS b at_ s) then ⟨b.getD at_ 0, 0, 0⟩ :: findL b d f (at_ + 1) (noteS b at_ s)
      else ⟨0, ((bestF b at_ s.1 s.2 d).1 : Nat), ((bestF b at_ s.1 s.2 d).2 : Nat)⟩ :: findL b d f (at_ + (bestF b at_ s.1 s.2 d).1) (notesF b at_ ((bestF b at_ s.1 s.2 d).1 - 1) (noteS b at_ s))
def st0 (n : Nat) : StF := (fun _ => 0, List.replicate n 0)
def findF (b : List Nat) (d : Nat) : List TokV := findL b d b.length 0 (st0 b.length)
/-! ### what always holds of the places noted -/
structure Inv (b : List Nat) (m : Nat) (s : StF) : Prop where
  len : s.2.length = b.length
  hs : ∀ x, s.1 x ≤ m
  ps : ∀ i, s.2.getD i 0 ≤ m
theorem Inv.up {b : List Nat} {m m' : Nat} {s : StF} (I : Inv b m s) (hm : m ≤ m') : Inv b m' s := ⟨I.len, fun x => Nat.le_trans (I.hs x) hm, fun i => Nat.le_trans (I.ps i) hm⟩
theorem Inv.st0 (b : List Nat) : Inv b 0 (st0 b.length) := by
  refine ⟨by simp [VFindP.st0], fun x => Nat.le_refl _, fun i => ?_⟩
  show (List.replicate b.length 0).getD i 0 ≤ 0
  rw [List.getD_eq_getElem?_getD, List.getElem?_replicate]
  split <;> simp
theorem Inv.note {b : List Nat} {m : Nat} {s : StF} (I : Inv b m s) : Inv b (m + 1) (noteS b m s) := by
  unfold noteS
  split
  · exact I.up (by omega)
  · refine ⟨by simp [I.len], fun x => ?_, fun i => ?_⟩
    · show upN s.1 (hashN b m) (m + 1) x ≤ m + 1
      unfold upN
      split
      · omega
      · have := I.hs x; omega
    · show (s.2.set m (s.1 (hashN b m))).getD i 0 ≤ m + 1
      rw [List.getD_eq_getElem?_getD, List.getElem?_set]
      split
      · split
        · have := I.hs (hashN b m); simp; omega
        · simp
      · rw [← List.getD_eq_getElem?_getD]; have := I.ps i; omega
theorem Inv.notes {b : List Nat} {m : Nat} {s : StF} (I : Inv b (m + 1) s) : ∀ k, Inv b (m + 1 + k) (notesF b m k s)
  | 0 => I
  | k + 1 => by
    have := (Inv.notes I k)
    rw [show m + 1 + k = m + (k + 1) by omega] at this
    rw [show m + 1 + (k + 1) = m + (k + 1) + 1 by omega]
    exact this.note
/-! ### what the longest match is -/
theorem lcp_le : ∀ (m : Nat) (xs ys : List Nat), lcp m xs ys ≤ m ∧ lcp m xs ys ≤ ys.length ∧ lcp m xs ys ≤ xs.length
  | 0, _, _ => by simp [lcp]
  | m + 1, [], ys => by cases ys <;> simp [lcp]
  | m + 1, x :: xs, [] => by simp [lcp]
  | m + 1, x :: xs, y :: ys => by
    have := lcp_le m xs ys
    simp only [lcp, List.length_cons]
    split <;> omega
theorem sameN_le (b : List Nat) (i k : Nat) : sameN b (i : Nat) (k : Nat) ≤ 258 ∧ sameN b (i : Nat) (k : Nat) ≤ b.length - k ∧ sameN b (i : Nat) (k : Nat) ≤ b.length - i := by
  unfold sameN
  split
  · omega
  · have := lcp_le 258 (b.drop i) (b.drop k)
    simp only [Int.toNat_natCast, List.length_drop] at *
    omega
/-- what a match is: none, or so many bytes so far back -/
def MatchP (b : List Nat) (at_ : Nat) (r : Nat × Nat) : Prop := r.1 = 0 ∨ (r.1 = sameN b ((at_ - r.2 : Nat) : Int) (at_ : Int) ∧ 1 ≤ r.2 ∧ r.2 ≤ 32768 ∧ r.2 ≤ at_)
theorem bestL_ok {b : List Nat} {at_ : Nat} {ps : List Nat} (hps : ∀ i, ps.getD i 0 ≤ at_) : ∀ (f pl m d : Nat), pl ≤ at_ → MatchP b at_ (m, d) → MatchP b at_ (bestL b at_ ps f pl m d)
  | 0, _, _, _, _, hM => hM
  | f + 1, pl, m, d, hp, hM => by
    rw [bestL_s]
    split
    · exact hM
    · split
      · refine bestL_ok hps f _ _ _ (hps _) (.inr ⟨?_, by omega, by omega, by omega⟩)
        show sameN b _ _ = sameN b ((at_ - (at_ - (pl - 1)) : Nat) : Int) _
        rw [show at_ - (at_ - (pl - 1)) = pl - 1 by omega]
      · exact bestL_ok hps f _ _ _ (hps _) hM
theorem bestF_ok {b : List Nat} {at_ d : Nat} {g : Nat → Nat} {ps : List Nat} (hg : ∀ x, g x ≤ at_) (hps : ∀ i, ps.getD i 0 ≤ at_) : MatchP b at_ (bestF b at_ g ps d) ∧ ((bestF b at_ g ps d).1 = 0 ∨ 3 ≤ (bestF b at_ g ps d).1) := by
  unfold bestF
  split
  · exact ⟨.inl rfl, .inl rfl⟩
  · have := bestL_ok (b := b) hps d (g (hashN b at_)) 0 0 (hg _) (.inl rfl)
    unfold cut3
    split
    · exact ⟨.inl rfl, .inl rfl⟩
    · exact ⟨this, .inr (by omega)⟩
theorem MatchP.le {b : List Nat} {at_ : Nat} {r : Nat × Nat} (h : MatchP b at_ r) (hat : at_ ≤ b.length) : r.1 ≤ 258 ∧ at_ + r.1 ≤ b.length := by
  rcases h with h | ⟨h, _⟩
  · omega
  · have := sameN_le b (at_ - r.2) at_
    omega
end
end Go.Proofs.YtipeglbklhincaaDoor.VFindP
