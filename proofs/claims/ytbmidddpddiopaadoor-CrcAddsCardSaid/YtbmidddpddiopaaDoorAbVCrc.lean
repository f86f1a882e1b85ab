/- package crc over the machine of values. -/
import Derived.Test.YtbmidddpddiopaaDoorProg
import Derived.Test.YtbmidddpddiopaaDoorAbV17
import Derived.Test.YtbmidddpddiopaaDoorAbFacts
import Derived.Test.YtbmidddpddiopaaDoorAbVCrcP
import Derived.Test.YtbmidddpddiopaaDoorAbVG
import Derived.KernelRfl
import Derived.Laws.BitsAllLaws
set_option linter.unusedVariables false
set_option linter.unusedSimpArgs false
set_option maxRecDepth 100000
set_option maxHeartbeats 4000000
namespace Go.Proofs.YtbmidddpddiopaaDoor.VCrc
open Go.RowKit Go.Proofs.AbM Go.Proofs.YtbmidddpddiopaaDoor.Facts Go.Proofs.YtbmidddpddiopaaDoor.VCrcP Go.Proofs.YtbmidddpddiopaaDoor.VG
attribute [local go_sem] vawp_skip_eq vawp_seq_eq vawp_region_eq vawp_cond_g vawp_block_eq vawp_exit_eq vawp_ret_eq thenV_ret thenV_exit thenV_normal inBlockV_normal inBlockV_ret inBlockV_exit resKV_nil resKV_tmp resKV_cell oneV_one oneV_nil oneV_more initV_nil initV_cons updV_at evv_tmp evv_func evv_global evv_int evv_bool evv_str evv_snil evv_pnil evv_agg ofV3_int ofV3_bool ofV3_str ofV3_snil ofV3_pnil vok_tmp vok_func vok_global vok_int vok_bool vok_str vok_snil vok_pnil vok_agg cloV3_int cloV3_bool cloV3_str cloV3_snil cloV3_pnil voks_nil voks_cons scV_int scV_bool scV_str isBlV_b isBV_t isBV_f lwV_none lwV_sc lwV_agg lwV_tup lwV_isl lwV_own lwV_op lwV_ip lwV_fn lwV_junk vops_nil vops_n vops_s gsN_eq vop dstOk_some dstOk_none pkV_b blkV_set eRead_f eRead_t vLoad_op vLoad_ip vStore_op cells_sc cells_isl cells_own cells_op cells_ip cells_fn cells_agg parts_sc parts_isl parts_own parts_op parts_ip parts_fn parts_agg one_sc one_isl one_own one_op one_ip one_fn vField_op vField_ip ePart_f ePart_t vFieldV_agg vIx_isl vIx_own vIx_op vIx_ip vIxV_agg vIxV_str vLen_str vLen_isl vLen_own vLen_agg bndE_none bndE_int vSlice_isl vSlice_str vBin_add vBin_sub vBin_mul vBin_quo vBin_rem vBin_and vBin_or vBin_xor vBin_andNot vBin_eql vBin_neq vBin_lss vBin_leq vBin_gtr vBin_geq vBin_shr_i8 vBin_shl_i8 vBin_shr_i16 vBin_shl_i16 vBin_shr_i32 vBin_shl_i32 vBin_shr_i64 vBin_shl_i64 vBin_shr_u8 vBin_shl_u8 vBin_shr_u16 vBin_shl_u16 vBin_shr_u32 vBin_shl_u32 vBin_shr_u64 vBin_shl_u64 vBin_seq vBin_sne vBin_isln vBin_opn vBin_ipn ex_sc ex_sc2 ex_sc3 ex_tup calleeV wSc_pb wSc_pi wSc_not wSc_neg wSc_com wSc_min2 wSc_max2 vfold_nil vfold_one vfold_cons vfill_nil vfill_e eFill_s vBuild vBox vAlloc setV_map setV_zs setV_zn setV_s hset_hset eConv_ss vConv_e iv_eq ivI_eq ex_get ex_getI set_iv set_ivI okNil isNilV isSlV hdel_at hset_at List.map_toArray List.map_cons List.map_nil List.nil_append List.cons_append List.append_nil List.toList_toArray List.getElem?_toArray List.getElem_toArray List.getElem_cons_zero List.getElem_cons_succ List.getElem?_cons_zero List.getElem?_cons_succ List.set_cons_zero List.set_cons_succ List.set_set List.length_cons List.length_nil List.length_set List.length_map List.all_cons List.all_nil List.drop_zero List.drop_succ_cons List.take_succ_cons List.take_zero List.flatMap_cons Bool.and_eq_true true_and and_true if_true if_false ite_true ite_false forall_eq' forall_eq exists_eq_left exists_eq_left' exists_eq' Value.bool.injEq Value.int.injEq Value.string.injEq Value.pointer.injEq Option.some.injEq AV.sc.injEq AV.op.injEq AV.ip.injEq AV.own.injEq AV.agg.injEq VB.cells.injEq VB.iter.injEq Prod.mk.injEq decide_eq_true_eq decide_eq_false_iff_not Nat.reduceEqDiff Nat.reduceLT Nat.reduceLeDiff Nat.reduceSub Nat.reduceBEq reduceIte Int.reduceLE Int.reduceLT Int.reduceToNat Int.reduceNeg Int.reduceEq Int.reduceNe Int.cast_ofNat_Int Nat.reduceMul Nat.reduceAdd Nat.reduceDiv Nat.reduceMod Nat.reducePow Int.reduceSub Int.reduceAdd Int.reduceMul Int.reducePow Option.isSome_some Option.isSome_none Option.bind_some Option.map_some Option.map_none Option.toList_some Option.toList_none true_or or_true or_false false_or Bool.not_true Bool.not_false Bool.not_eq_true Bool.false_eq_true Bool.not_not false_implies true_implies implies_true Nat.zero_add Nat.add_zero Nat.mul_one Bool.not_eq_true' Bool.true_eq_false Bool.and_true Bool.true_and Bool.and_false Bool.false_and Bool.or_true Bool.true_or Bool.or_false Bool.false_or Option.isNone_some Option.isNone_none Int.reduceBEq Int.reduceBNe beq_self_eq_true bne_self_eq_false beq_iff_eq not_false_eq_true not_true_eq_false Decidable.not_not bne_iff_ne ne_eq Int.toNat_natCast gt_lt ge_le c_add c_mul c_sub c_addn c_nadd c_muln c_nmul c_subn c_nsub c_divn c_modn c_div c_mod c_tdivn c_tmodn c_tdiv c_tmod c_pow c_nn c_beq c_beqn c_bne c_bnen wr64 wr32 wru64 wru32 wru16 wru8 c_if c_if1 c_if2 c_lt c_le c_eq c_ltn c_len c_nlt c_nle c_eqn m_drop m_take Nat.add_sub_cancel_left Nat.add_sub_cancel Int.reduceTMod Int.reduceTDiv Int.reduceMod Int.reduceDiv isC_some hset_ne hdel_ne hdel_hset hdel_hset_ne blkV_nset blkV_ndel hset_hdel gV_t gV_f isGdV_b isGdV_u isBV_u isGdV_g isBV_gt isBV_gf decide_true decide_false Bool.or_eq_false_iff eq_self Nat.lt_irrefl Int.lt_irrefl Nat.le_refl Int.le_refl
attribute [local go_sem high] vops_pk vops_mv vops_as vops_smv pk_and pk_or pk_gand pk_gor pk_orn pk_gorn
attribute [local go_sem] ag3 sz3 zc3 ik3 ag4 sz4 zc4 ag5 sz5 zc5 ik5 ag22 sz22 zc22 ik22 ag23 sz23 el23 zc23 is23 ag28 sz28 el28 zc28 is28 ag32 sz32 el32 zc32 is32 ag41 sz41 ea41 an41 zc41 bo41 eqb neb
section
variable {n : Nat} {h : VH} {K : AV → VH → Prop}
theorem xor_w (a b : W32) : bits .xor .u32 ((a.toNat : Nat) : Int) ((b.toNat : Nat) : Int) = (((a ^^^ b).toNat : Nat) : Int) := by
  rw [u32_xor_nat _ _ a.isLt b.isLt, BitVec.toNat_xor]
theorem com_w (a : W32) : bits .xor .u32 (if IntKind.u32.signed = true then -1 else IntKind.u32.max) ((a.toNat : Nat) : Int) = (((~~~ a).toNat : Nat) : Int) := by
  have := xor_w (BitVec.allOnes 32) a
  rw [BitVec.allOnes_xor] at this
  exact this
theorem ofn_w {c : Nat} (hc : c < 4294967296) : (BitVec.ofNat 32 c).toNat = c := by rw [BitVec.toNat_ofNat]; exact Nat.mod_eq_of_lt hc
theorem shr4_w (a : W32) : ((a.toNat : Nat) : Int) / 16 = (((a >>> 4).toNat : Nat) : Int) := by
  rw [BitVec.toNat_ushiftRight, Nat.shiftRight_eq_div_pow]; omega
theorem shr1_w (a : W32) : ((a.toNat : Nat) : Int) / 2 = (((a >>> 1).toNat : Nat) : Int) := by
  rw [BitVec.toNat_ushiftRight, Nat.shiftRight_eq_div_pow]; omega
theorem and15_w (a : W32) : bits .and .u32 ((a.toNat : Nat) : Int) 15 = ((a.toNat % 16 : Nat) : Int) := by
  rw [show (15 : Int) = ((15 : Nat) : Int) from rfl, u32_and_nat _ 15 a.isLt (by omega), show (15 : Nat) = 2 ^ 4 - 1 from rfl, Nat.and_two_pow_sub_one_eq_mod]
theorem nib_lt (x : Nat) : nibs.getD x 0 < 4294967296 := by
  rcases Nat.lt_or_ge x 16 with hx | hx
  · have : ∀ k : Fin 16, nibs.getD k.val 0 < 4294967296 := by decide
    exact this ⟨x, hx⟩
  · rw [List.getD_eq_getElem?_getD, List.getElem?_eq_none (by simpa [nibs] using hx)]; decide
theorem n4_w (a : W32) : bits .xor .u32 ((a.toNat / 16 : Nat) : Int) ((nibs.getD (a.toNat % 16) 0 : Nat) : Int) = (((N4 a).toNat : Nat) : Int) := by
  have := xor_w (a >>> 4) (BitVec.ofNat 32 (nibs.getD (a.toNat % 16) 0))
  rw [ofn_w (nib_lt _), BitVec.toNat_ushiftRight, Nat.shiftRight_eq_div_pow] at this
  exact this
theorem getD_lt {bs : List Nat} {m : Nat} (h8 : ∀ b ∈ bs, b < m) (hm : 0 < m) (i : Nat) : bs.getD i 0 < m := by
  rw [List.getD_eq_getElem?_getD]
  cases h : bs[i]? with
  | none => exact hm
  | some x => exact h8 x (List.mem_of_getElem? h)
theorem byte_w (a : W32) {c : Nat} (hc : c < 256) : bits .xor .u32 ((a.toNat : Nat) : Int) ((c : Nat) : Int) = (((a ^^^ BitVec.ofNat 32 c).toNat : Nat) : Int) := by
  have := xor_w a (BitVec.ofNat 32 c)
  rw [ofn_w (by omega)] at this
  exact this
theorem reg_take {r : W32} {bs : List Nat} {i : Nat} (hi : i < bs.length) : reg r (bs.take (i + 1)) = N4 (N4 (reg r (bs.take i) ^^^ BitVec.ofNat 32 (bs.getD i 0))) := by
  rw [List.take_succ_eq_append_getElem hi, reg_append, ← stepB_N4, List.getD_eq_getElem?_getD, List.getElem?_eq_getElem hi]; rfl
theorem update_v {nl : Bool} {l : Nat} {s : W32} {bs : List Nat} (hl : l = bs.length) (h8 : ∀ b ∈ bs, b < 256) (hb : bs.length ≤ 140737488355328) (hK : K (.sc (.int .u32 (((crcU s bs).toNat : Nat)))) h) : VC Tryd.prog GL (n + 1) 9 [(.sc (.int .u32 ((s.toNat : Nat)))), .isl nl l (bs.map (iv .u8))] h K := by
  refine VC_go Tryd.func9 rfl (by decide) Tryd.ntmps9 Tryd.results9 rfl fun Q hq hn => ?_
  subst hl
  have e1 := com_w s
  have hnl : nibs.length = 16 := rfl
  repeat (first | (simp (maxSteps := 1000000) only [↓reduceIte, go_sem, GL_nib, e1]) | (simp (maxSteps := 1000000) (disch := first | omega | assumption) only [BB, GL_nib, e1]) | with_reducible refine Gst.now ?_ | with_reducible refine vawp_draw mixed (by kernel_rfl) ?_ | with_reducible first | refine lwV_out ?_ | refine lwV_out0 ?_ | refine lkC_out ?_ | refine And.intro (by omega) ?_ | fail)
  refine vawp_loop (k := bs.length) (fun k ρ h1 => ∃ i : Nat, k + i = bs.length ∧ ρ 9 = .isl nl bs.length (bs.map (iv .u8)) ∧ ρ 10 = (.sc (.int .i64 (bs.length))) ∧ ρ 11 = (.sc (.int .i64 (i))) ∧ ρ 0 = (.sc (.int .u32 (((reg (~~~ s) (bs.take i)).toNat : Nat)))) ∧ h1 = h) ?_ ?_
  · refine ⟨0, rfl, ?_⟩
    repeat (first | (simp (maxSteps := 1000000) only [↓reduceIte, go_sem, e1]) | (simp (maxSteps := 1000000) (disch := first | omega | assumption) only [BB, e1]) | with_reducible refine Gst.now ?_ | with_reducible refine vawp_draw mixed (by kernel_rfl) ?_ | with_reducible first | refine lwV_out ?_ | refine lwV_out0 ?_ | refine lkC_out ?_ | refine And.intro (by omega) ?_ | fail)
    rfl
  · rintro k ρ h1 ⟨i, hki, g9, g10, g11, g0, rfl⟩
    repeat (first | (simp (maxSteps := 1000000) only [↓reduceIte, go_sem, e1, g9, g10, g11, g0]) | (simp (maxSteps := 1000000) (disch := first | omega | assumption) only [BB, e1, g9, g10, g11, g0]) | with_reducible refine Gst.now ?_ | with_reducible refine vawp_draw mixed (by kernel_rfl) ?_ | with_reducible first | refine lwV_out ?_ | refine lwV_out0 ?_ | refine lkC_out ?_ | refine And.intro (by omega) ?_ | fail)
    split
    · have hc : bs.getD i 0 < 256 := getD_lt h8 (by omega) _
      have e2 := byte_w (reg (~~~ s) (bs.take i)) hc
      have e3 := reg_take (r := ~~~ s) (bs := bs) (i := i) (by omega)
      generalize reg (~~~ s) (bs.take i) = r at *
      generalize r ^^^ BitVec.ofNat 32 (bs.getD i 0) = q at *
      have e5 := and15_w q
      have e6 := n4_w q
      have e8 := and15_w (N4 q)
      have e9 := n4_w (N4 q)
      have e10 : q.toNat % 16 < 16 := Nat.mod_lt _ (by omega)
      have e11 : (N4 q).toNat % 16 < 16 := Nat.mod_lt _ (by omega)
      repeat (first | (simp (maxSteps := 1000000) only [↓reduceIte, go_sem, GL_nib, e1, g9, g10, g11, g0, e2, e3, e5, e6, e8, e9, e10, e11]) | (simp (maxSteps := 1000000) (disch := first | omega | assumption) only [BB, GL_nib, e1, g9, g10, g11, g0, e2, e3, e5, e6, e8, e9, e10, e11]) | with_reducible refine Gst.now ?_ | with_reducible refine vawp_draw mixed (by kernel_rfl) ?_ | with_reducible first | refine lwV_out ?_ | refine lwV_out0 ?_ | refine lkC_out ?_ | refine And.intro (by omega) ?_ | fail)
      refine ⟨k - 1, by omega, i + 1, by omega, ?_⟩
      repeat (first | (simp (maxSteps := 1000000) only [↓reduceIte, go_sem, e1, g9, g10, g11, g0, e2, e3, e5, e6, e8, e9, e10, e11]) | (simp (maxSteps := 1000000) (disch := first | omega | assumption) only [BB, e1, g9, g10, g11, g0, e2, e3, e5, e6, e8, e9, e10, e11]) | with_reducible refine Gst.now ?_ | with_reducible refine vawp_draw mixed (by kernel_rfl) ?_ | with_reducible first | refine lwV_out ?_ | refine lwV_out0 ?_ | refine lkC_out ?_ | refine And.intro (by omega) ?_ | fail)
    · have e2 := com_w (reg (~~~ s) bs)
      have e3 : bs.take i = bs := List.take_of_length_le (by omega)
      repeat (first | (simp (maxSteps := 1000000) only [↓reduceIte, go_sem, e1, g9, g10, g11, g0, e2, e3]) | (simp (maxSteps := 1000000) (disch := first | omega | assumption) only [BB, e1, g9, g10, g11, g0, e2, e3]) | with_reducible refine Gst.now ?_ | with_reducible refine vawp_draw mixed (by kernel_rfl) ?_ | with_reducible first | refine lwV_out ?_ | refine lwV_out0 ?_ | refine lkC_out ?_ | refine And.intro (by omega) ?_ | fail)
      refine hq _ _ ?_
      repeat (first | (simp (maxSteps := 1000000) only [↓reduceIte, go_sem, e1, g9, g10, g11, g0, e2, e3]) | (simp (maxSteps := 1000000) (disch := first | omega | assumption) only [BB, e1, g9, g10, g11, g0, e2, e3]) | with_reducible refine Gst.now ?_ | with_reducible refine vawp_draw mixed (by kernel_rfl) ?_ | with_reducible first | refine lwV_out ?_ | refine lwV_out0 ?_ | refine lkC_out ?_ | refine And.intro (by omega) ?_ | fail)
      exact .now hK
theorem sum_v {nl : Bool} {l : Nat} {bs : List Nat} (hl : l = bs.length) (h8 : ∀ b ∈ bs, b < 256) (hb : bs.length ≤ 140737488355328) (hK : K (.sc (.int .u32 (((crcU 0#32 bs).toNat : Nat)))) h) : VC Tryd.prog GL (n + 2) 11 [.isl nl l (bs.map (iv .u8))] h K := by
  refine VC_go Tryd.func11 rfl (by decide) Tryd.ntmps11 Tryd.results11 rfl fun Q hq hn => ?_
  repeat (first | (simp (maxSteps := 1000000) only [↓reduceIte, go_sem]) | (simp (maxSteps := 1000000) (disch := first | omega | assumption) only [BB]) | with_reducible refine Gst.now ?_ | with_reducible refine vawp_draw mixed (by kernel_rfl) ?_ | with_reducible first | refine lwV_out ?_ | refine lwV_out0 ?_ | refine lkC_out ?_ | refine And.intro (by omega) ?_ | fail)
  with_reducible refine call_ok ?_
  refine update_v (s := 0#32) hl h8 hb ?_
  repeat (first | (simp (maxSteps := 1000000) only [↓reduceIte, go_sem]) | (simp (maxSteps := 1000000) (disch := first | omega | assumption) only [BB]) | with_reducible refine Gst.now ?_ | with_reducible refine vawp_draw mixed (by kernel_rfl) ?_ | with_reducible first | refine lwV_out ?_ | refine lwV_out0 ?_ | refine lkC_out ?_ | refine And.intro (by omega) ?_ | fail)
  refine hq _ _ ?_
  repeat (first | (simp (maxSteps := 1000000) only [↓reduceIte, go_sem]) | (simp (maxSteps := 1000000) (disch := first | omega | assumption) only [BB]) | with_reducible refine Gst.now ?_ | with_reducible refine vawp_draw mixed (by kernel_rfl) ?_ | with_reducible first | refine lwV_out ?_ | refine lwV_out0 ?_ | refine lkC_out ?_ | refine And.intro (by omega) ?_ | fail)
  exact .now hK
theorem top_t {x : W32} (h : x.getLsbD 31 = true) : bits .and .u32 ((x.toNat : Nat) : Int) 2147483648 = 2147483648 := by
  rw [show (2147483648 : Int) = ((2147483648 : Nat) : Int) from rfl, u32_and_nat _ _ x.isLt (by omega)]
  have : x &&& 2147483648#32 = 2147483648#32 := by
    apply BitVec.eq_of_getLsbD_eq
    intro i hi
    rw [BitVec.getLsbD_and]
    have hb : ∀ k : Fin 32, (2147483648#32).getLsbD k.val = decide (k.val = 31) := by decide
    rw [hb ⟨i, hi⟩]
    by_cases h31 : i = 31
    · subst h31; rw [h]; rfl
    · simp [h31]
  have h2 := congrArg BitVec.toNat this
  rw [BitVec.toNat_and] at h2
  exact congrArg Nat.cast h2
theorem top_f {x : W32} (h : x.getLsbD 31 = false) : bits .and .u32 ((x.toNat : Nat) : Int) 2147483648 = 0 := by
  rw [show (2147483648 : Int) = ((2147483648 : Nat) : Int) from rfl, u32_and_nat _ _ x.isLt (by omega)]
  have : x &&& 2147483648#32 = 0#32 := by
    apply BitVec.eq_of_getLsbD_eq
    intro i hi
    rw [BitVec.getLsbD_and]
    have hb : ∀ k : Fin 32, (2147483648#32).getLsbD k.val = decide (k.val = 31) := by decide
    rw [hb ⟨i, hi⟩]
    by_cases h31 : i = 31
    · subst h31; rw [h]; rfl
    · simp [h31]
  have h2 := congrArg BitVec.toNat this
  rw [BitVec.toNat_and] at h2
  exact congrArg Nat.cast h2
theorem lsb_mod (x : W32) : x.getLsbD 0 = decide (x.toNat % 2 = 1) := by
  simp [BitVec.getLsbD, Nat.testBit_zero]
theorem low_t {x : W32} (h : x.getLsbD 0 = true) : bits .and .u32 ((x.toNat : Nat) : Int) 1 = 1 := by
  rw [show (1 : Int) = ((1 : Nat) : Int) from rfl, u32_and_nat _ _ x.isLt (by omega), Nat.and_one_is_mod]
  rw [lsb_mod, decide_eq_true_eq] at h
  rw [h]
theorem low_f {x : W32} (h : x.getLsbD 0 = false) : bits .and .u32 ((x.toNat : Nat) : Int) 1 = 0 := by
  rw [show (1 : Int) = ((1 : Nat) : Int) from rfl, u32_and_nat _ _ x.isLt (by omega), Nat.and_one_is_mod]
  rw [lsb_mod, decide_eq_false_iff_not] at h
  rw [show x.toNat % 2 = 0 by omega]; rfl
theorem sb_t {x : W32} (h : x.getLsbD 0 = true) : bits .xor .u32 ((x.toNat / 2 : Nat) : Int) 3988292384 = (((Sb x).toNat : Nat) : Int) := by
  have := xor_w (x >>> 1) pol
  rw [BitVec.toNat_ushiftRight, Nat.shiftRight_eq_div_pow] at this
  refine this.trans ?_
  unfold Sb
  rw [h, if_pos rfl]
theorem sb_f {x : W32} (h : x.getLsbD 0 = false) : x.toNat / 2 = (Sb x).toNat := by
  unfold Sb
  rw [h]
  simp [Nat.shiftRight_eq_div_pow]
theorem shl_w (x : W32) (i : Nat) : IntKind.u32.wrap (((x <<< i).toNat * 2 : Nat) : Int) = (((x <<< (i + 1)).toNat : Nat) : Int) := by
  rw [IntKind.wrap_u32, BitVec.shiftLeft_add, BitVec.toNat_shiftLeft (x := x <<< i), Nat.shiftLeft_eq]
  omega
theorem times_v {a b : W32} (hK : K (.sc (.int .u32 (((mulP a b).toNat : Nat)))) h) : VC Tryd.prog GL (n + 1) 21 [(.sc (.int .u32 ((a.toNat : Nat)))), (.sc (.int .u32 ((b.toNat : Nat))))] h K := by
  refine VC_go Tryd.func21 rfl (by decide) Tryd.ntmps21 Tryd.results21 rfl fun Q hq hn => ?_
  repeat (first | (simp (maxSteps := 1000000) only [↓reduceIte, go_sem]) | (simp (maxSteps := 1000000) (disch := first | omega | assumption) only [BB]) | with_reducible refine Gst.now ?_ | with_reducible refine vawp_draw mixed (by kernel_rfl) ?_ | with_reducible first | refine lwV_out ?_ | refine lwV_out0 ?_ | refine lkC_out ?_ | refine And.intro (by omega) ?_ | fail)
  refine vawp_loop (k := 32) (fun k ρ h1 => ∃ i : Nat, k + i = 32 ∧ ρ 0 = (.sc (.int .u32 (((a <<< i).toNat : Nat)))) ∧ ρ 1 = (.sc (.int .u32 (((It i b).toNat : Nat)))) ∧ ρ 5 = (.sc (.int .u32 (((pmul a b i).toNat : Nat)))) ∧ h1 = h) ?_ ?_
  · refine ⟨0, rfl, ?_⟩
    repeat (first | (simp (maxSteps := 1000000) only [↓reduceIte, go_sem]) | (simp (maxSteps := 1000000) (disch := first | omega | assumption) only [BB]) | with_reducible refine Gst.now ?_ | with_reducible refine vawp_draw mixed (by kernel_rfl) ?_ | with_reducible first | refine lwV_out ?_ | refine lwV_out0 ?_ | refine lkC_out ?_ | refine And.intro (by omega) ?_ | fail)
    exact ⟨by simp, rfl, rfl⟩
  · rintro k ρ h1 ⟨i, hki, g0, g1, g5, rfl⟩
    by_cases hz : a <<< i = 0#32
    · have e1 : (a <<< i).toNat = 0 := by rw [hz]; rfl
      have e2 := part_stop a b i (by omega) hz
      repeat (first | (simp (maxSteps := 1000000) only [↓reduceIte, go_sem, g0, g1, g5, e1, e2]) | (simp (maxSteps := 1000000) (disch := first | omega | assumption) only [BB, g0, g1, g5, e1, e2]) | with_reducible refine Gst.now ?_ | with_reducible refine vawp_draw mixed (by kernel_rfl) ?_ | with_reducible first | refine lwV_out ?_ | refine lwV_out0 ?_ | refine lkC_out ?_ | refine And.intro (by omega) ?_ | fail)
      refine hq _ _ ?_
      repeat (first | (simp (maxSteps := 1000000) only [↓reduceIte, go_sem, g0, g1, g5, e1, e2]) | (simp (maxSteps := 1000000) (disch := first | omega | assumption) only [BB, g0, g1, g5, e1, e2]) | with_reducible refine Gst.now ?_ | with_reducible refine vawp_draw mixed (by kernel_rfl) ?_ | with_reducible first | refine lwV_out ?_ | refine lwV_out0 ?_ | refine lkC_out ?_ | refine And.intro (by omega) ?_ | fail)
      exact .now hK
    · have e1 : ¬ (a <<< i).toNat = 0 := fun h => hz (BitVec.eq_of_toNat_eq h)
      have hi : i < 32 := Nat.lt_of_not_le fun hh => hz (by rw [show i = 32 by omega]; exact shl32 a)
      have hm : (a <<< i).getLsbD 31 = a.getLsbD (31 - i) := by
        rw [BitVec.getLsbD_shiftLeft]; simp; omega
      have hp : pmul a b (i + 1) = pmul a b i ^^^ (if a.getLsbD (31 - i) then It i b else 0#32) := rfl
      cases h1 : a.getLsbD (31 - i) with
      | true =>
        rw [h1] at hm hp
        have e2 := top_t hm
        have e6 := xor_w (pmul a b i) (It i b)
        rw [if_pos rfl] at hp
        rw [← hp] at e6
        cases h2 : (It i b).getLsbD 0 with
        | true =>
          have e3 := low_t h2
          have e7 := sb_t h2
          have e4 : (It (i + 1) b) = Sb (It i b) := rfl
          have e5 := shl_w a i
          repeat (first | (simp (maxSteps := 1000000) only [↓reduceIte, go_sem, g0, g1, g5, e1, e2, e6, e3, e7, e4, e5]) | (simp (maxSteps := 1000000) (disch := first | omega | assumption) only [BB, g0, g1, g5, e1, e2, e6, e3, e7, e4, e5]) | with_reducible refine Gst.now ?_ | with_reducible refine vawp_draw mixed (by kernel_rfl) ?_ | with_reducible first | refine lwV_out ?_ | refine lwV_out0 ?_ | refine lkC_out ?_ | refine And.intro (by omega) ?_ | fail)
          refine ⟨k - 1, by omega, i + 1, by omega, ?_⟩
          repeat (first | (simp (maxSteps := 1000000) only [↓reduceIte, go_sem, g0, g1, g5, e1, e2, e6, e3, e7, e4, e5]) | (simp (maxSteps := 1000000) (disch := first | omega | assumption) only [BB, g0, g1, g5, e1, e2, e6, e3, e7, e4, e5]) | with_reducible refine Gst.now ?_ | with_reducible refine vawp_draw mixed (by kernel_rfl) ?_ | with_reducible first | refine lwV_out ?_ | refine lwV_out0 ?_ | refine lkC_out ?_ | refine And.intro (by omega) ?_ | fail)
        | false =>
          have e3 := low_f h2
          have e7 := sb_f h2
          have e4 : (It (i + 1) b) = Sb (It i b) := rfl
          have e5 := shl_w a i
          repeat (first | (simp (maxSteps := 1000000) only [↓reduceIte, go_sem, g0, g1, g5, e1, e2, e6, e3, e7, e4, e5]) | (simp (maxSteps := 1000000) (disch := first | omega | assumption) only [BB, g0, g1, g5, e1, e2, e6, e3, e7, e4, e5]) | with_reducible refine Gst.now ?_ | with_reducible refine vawp_draw mixed (by kernel_rfl) ?_ | with_reducible first | refine lwV_out ?_ | refine lwV_out0 ?_ | refine lkC_out ?_ | refine And.intro (by omega) ?_ | fail)
          refine ⟨k - 1, by omega, i + 1, by omega, ?_⟩
          repeat (first | (simp (maxSteps := 1000000) only [↓reduceIte, go_sem, g0, g1, g5, e1, e2, e6, e3, e7, e4, e5]) | (simp (maxSteps := 1000000) (disch := first | omega | assumption) only [BB, g0, g1, g5, e1, e2, e6, e3, e7, e4, e5]) | with_reducible refine Gst.now ?_ | with_reducible refine vawp_draw mixed (by kernel_rfl) ?_ | with_reducible first | refine lwV_out ?_ | refine lwV_out0 ?_ | refine lkC_out ?_ | refine And.intro (by omega) ?_ | fail)
      | false =>
        rw [h1] at hm hp
        have e2 := top_f hm
        have e6 : pmul a b i = pmul a b (i + 1) := by rw [hp]; simp
        cases h2 : (It i b).getLsbD 0 with
        | true =>
          have e3 := low_t h2
          have e7 := sb_t h2
          have e4 : (It (i + 1) b) = Sb (It i b) := rfl
          have e5 := shl_w a i
          repeat (first | (simp (maxSteps := 1000000) only [↓reduceIte, go_sem, g0, g1, g5, e1, e2, e6, e3, e7, e4, e5]) | (simp (maxSteps := 1000000) (disch := first | omega | assumption) only [BB, g0, g1, g5, e1, e2, e6, e3, e7, e4, e5]) | with_reducible refine Gst.now ?_ | with_reducible refine vawp_draw mixed (by kernel_rfl) ?_ | with_reducible first | refine lwV_out ?_ | refine lwV_out0 ?_ | refine lkC_out ?_ | refine And.intro (by omega) ?_ | fail)
          refine ⟨k - 1, by omega, i + 1, by omega, ?_⟩
          repeat (first | (simp (maxSteps := 1000000) only [↓reduceIte, go_sem, g0, g1, g5, e1, e2, e6, e3, e7, e4, e5]) | (simp (maxSteps := 1000000) (disch := first | omega | assumption) only [BB, g0, g1, g5, e1, e2, e6, e3, e7, e4, e5]) | with_reducible refine Gst.now ?_ | with_reducible refine vawp_draw mixed (by kernel_rfl) ?_ | with_reducible first | refine lwV_out ?_ | refine lwV_out0 ?_ | refine lkC_out ?_ | refine And.intro (by omega) ?_ | fail)
        | false =>
          have e3 := low_f h2
          have e7 := sb_f h2
          have e4 : (It (i + 1) b) = Sb (It i b) := rfl
          have e5 := shl_w a i
          repeat (first | (simp (maxSteps := 1000000) only [↓reduceIte, go_sem, g0, g1, g5, e1, e2, e6, e3, e7, e4, e5]) | (simp (maxSteps := 1000000) (disch := first | omega | assumption) only [BB, g0, g1, g5, e1, e2, e6, e3, e7, e4, e5]) | with_reducible refine Gst.now ?_ | with_reducible refine vawp_draw mixed (by kernel_rfl) ?_ | with_reducible first | refine lwV_out ?_ | refine lwV_out0 ?_ | refine lkC_out ?_ | refine And.intro (by omega) ?_ | fail)
          refine ⟨k - 1, by omega, i + 1, by omega, ?_⟩
          repeat (first | (simp (maxSteps := 1000000) only [↓reduceIte, go_sem, g0, g1, g5, e1, e2, e6, e3, e7, e4, e5]) | (simp (maxSteps := 1000000) (disch := first | omega | assumption) only [BB, g0, g1, g5, e1, e2, e6, e3, e7, e4, e5]) | with_reducible refine Gst.now ?_ | with_reducible refine vawp_draw mixed (by kernel_rfl) ?_ | with_reducible first | refine lwV_out ?_ | refine lwV_out0 ?_ | refine lkC_out ?_ | refine And.intro (by omega) ?_ | fail)
theorem pow_step (n k : Nat) : n % 2 ^ (k + 1) = n % 2 ^ k + 2 ^ k * (n / 2 ^ k % 2) := Nat.mod_pow_succ
theorem and1_i64 (n : Nat) : bits .and .i64 (n : Int) 1 = ((n % 2 : Nat) : Int) := by
  have h1 : (BitVec.ofInt 64 1).toNat = 2 ^ 1 - 1 := by decide
  have key : (BitVec.ofInt 64 (n : Int) &&& BitVec.ofInt 64 1).toNat = ((n : Int) % ((2 ^ 64 : Nat) : Int)).toNat % 2 ^ 1 := by
    rw [BitVec.toNat_and, BitVec.toNat_ofInt, h1, Nat.and_two_pow_sub_one_eq_mod]
  show IntKind.i64.wrap ((BitVec.ofInt 64 (n : Int) &&& BitVec.ofInt 64 1).toNat : Nat) = _
  rw [key, IntKind.wrap_i64]
  omega
theorem It_mul (a b : Nat) : mulP (It a one32) (It b one32) = It (a + b) one32 := by rw [mul_It_one, It_add]
theorem power_v {m : Nat} (hm : m ≤ 1099511627776) (hK : K (.sc (.int .u32 (((It (8 * m) one32).toNat : Nat)))) h) : VC Tryd.prog GL (n + 2) 22 [(.sc (.int .i64 ((m : Nat))))] h K := by
  refine VC_go Tryd.func22 rfl (by decide) Tryd.ntmps22 Tryd.results22 rfl fun Q hq hn => ?_
  repeat (first | (simp (maxSteps := 1000000) only [↓reduceIte, go_sem]) | (simp (maxSteps := 1000000) (disch := first | omega | assumption) only [BB]) | with_reducible refine Gst.now ?_ | with_reducible refine vawp_draw mixed (by kernel_rfl) ?_ | with_reducible first | refine lwV_out ?_ | refine lwV_out0 ?_ | refine lkC_out ?_ | refine And.intro (by omega) ?_ | fail)
  refine vawp_loop (k := 41) (fun k ρ h1 => ∃ i : Nat, k + i = 41 ∧ ρ 0 = (.sc (.int .i64 ((m / 2 ^ i : Nat)))) ∧ ρ 3 = (.sc (.int .u32 (((It (8 * (m % 2 ^ i)) one32).toNat : Nat)))) ∧ ρ 4 = (.sc (.int .u32 (((It (8 * 2 ^ i) one32).toNat : Nat)))) ∧ h1 = h) ?_ ?_
  · refine ⟨0, rfl, ?_⟩
    repeat (first | (simp (maxSteps := 1000000) only [↓reduceIte, go_sem]) | (simp (maxSteps := 1000000) (disch := first | omega | assumption) only [BB]) | with_reducible refine Gst.now ?_ | with_reducible refine vawp_draw mixed (by kernel_rfl) ?_ | with_reducible first | refine lwV_out ?_ | refine lwV_out0 ?_ | refine lkC_out ?_ | refine And.intro (by omega) ?_ | fail)
    rw [Nat.mod_one]
    exact ⟨by decide, by decide⟩
  · rintro k ρ h1 ⟨i, hki, g0, g3, g4, rfl⟩
    have e1 := pow_step m i
    have e2 : m / 2 ^ (i + 1) = m / 2 ^ i / 2 := by rw [Nat.div_div_eq_div_mul, Nat.pow_succ]
    have e3 : (2 : Nat) ^ (i + 1) = 2 ^ i + 2 ^ i := by omega
    have hr : m % 2 ^ i ≤ m := Nat.mod_le _ _
    have hsm : m / 2 ^ i ≤ m := Nat.div_le_self _ _
    have hi : 0 < m / 2 ^ i → i < 41 := fun hpos => Nat.lt_of_not_le fun hh => by
      have h41 : 2 ^ 41 ≤ 2 ^ i := Nat.pow_le_pow_right (by omega) hh
      rw [Nat.div_eq_of_lt (by omega)] at hpos
      omega
    have hp0 : 0 < 2 ^ i := Nat.pow_pos (by omega)
    generalize 2 ^ i = p at *
    generalize hp2 : 2 ^ (i + 1) = p2 at *
    by_cases hz : 0 < m / p
    · have e4 := and1_i64 (m / p)
      have e8 := hz
      have e5 := It_mul (8 * (m % p)) (8 * p)
      have e6 := It_mul (8 * p) (8 * p)
      rw [show 8 * p + 8 * p = 8 * p2 by omega] at e6
      have hi2 := hi hz
      rcases Nat.mod_two_eq_zero_or_one (m / p) with h2 | h2
      · rw [h2] at e1 e4
        have e7 : m % p = m % p2 := by rw [e1]; simp
        repeat (first | (simp (maxSteps := 1000000) only [↓reduceIte, go_sem, g0, g3, g4, e2, e4, e8, e6, e7]) | (simp (maxSteps := 1000000) (disch := first | omega | assumption) only [BB, g0, g3, g4, e2, e4, e8, e6, e7]) | with_reducible refine Gst.now ?_ | with_reducible refine vawp_draw mixed (by kernel_rfl) ?_ | with_reducible first | refine lwV_out ?_ | refine lwV_out0 ?_ | refine lkC_out ?_ | refine And.intro (by omega) ?_ | fail)
        with_reducible refine call_ok ?_
        refine times_v ?_
        repeat (first | (simp (maxSteps := 1000000) only [↓reduceIte, go_sem, g0, g3, g4, e2, e4, e8, e6, e7]) | (simp (maxSteps := 1000000) (disch := first | omega | assumption) only [BB, g0, g3, g4, e2, e4, e8, e6, e7]) | with_reducible refine Gst.now ?_ | with_reducible refine vawp_draw mixed (by kernel_rfl) ?_ | with_reducible first | refine lwV_out ?_ | refine lwV_out0 ?_ | refine lkC_out ?_ | refine And.intro (by omega) ?_ | fail)
        refine ⟨k - 1, by omega, i + 1, by omega, ?_⟩
        repeat (first | (simp (maxSteps := 1000000) only [↓reduceIte, go_sem, hp2, g0, g3, g4, e2, e4, e8, e6, e7]) | (simp (maxSteps := 1000000) (disch := first | omega | assumption) only [BB, hp2, g0, g3, g4, e2, e4, e8, e6, e7]) | with_reducible refine Gst.now ?_ | with_reducible refine vawp_draw mixed (by kernel_rfl) ?_ | with_reducible first | refine lwV_out ?_ | refine lwV_out0 ?_ | refine lkC_out ?_ | refine And.intro (by omega) ?_ | fail)
      · rw [h2] at e1 e4
        rw [show 8 * (m % p) + 8 * p = 8 * (m % p2) by rw [e1]; omega] at e5
        repeat (first | (simp (maxSteps := 1000000) only [↓reduceIte, go_sem, g0, g3, g4, e2, e4, e8, e5, e6]) | (simp (maxSteps := 1000000) (disch := first | omega | assumption) only [BB, g0, g3, g4, e2, e4, e8, e5, e6]) | with_reducible refine Gst.now ?_ | with_reducible refine vawp_draw mixed (by kernel_rfl) ?_ | with_reducible first | refine lwV_out ?_ | refine lwV_out0 ?_ | refine lkC_out ?_ | refine And.intro (by omega) ?_ | fail)
        with_reducible refine call_ok ?_
        refine times_v ?_
        repeat (first | (simp (maxSteps := 1000000) only [↓reduceIte, go_sem, g0, g3, g4, e2, e4, e8, e5, e6]) | (simp (maxSteps := 1000000) (disch := first | omega | assumption) only [BB, g0, g3, g4, e2, e4, e8, e5, e6]) | with_reducible refine Gst.now ?_ | with_reducible refine vawp_draw mixed (by kernel_rfl) ?_ | with_reducible first | refine lwV_out ?_ | refine lwV_out0 ?_ | refine lkC_out ?_ | refine And.intro (by omega) ?_ | fail)
        with_reducible refine call_ok ?_
        refine times_v ?_
        repeat (first | (simp (maxSteps := 1000000) only [↓reduceIte, go_sem, g0, g3, g4, e2, e4, e8, e5, e6]) | (simp (maxSteps := 1000000) (disch := first | omega | assumption) only [BB, g0, g3, g4, e2, e4, e8, e5, e6]) | with_reducible refine Gst.now ?_ | with_reducible refine vawp_draw mixed (by kernel_rfl) ?_ | with_reducible first | refine lwV_out ?_ | refine lwV_out0 ?_ | refine lkC_out ?_ | refine And.intro (by omega) ?_ | fail)
        refine ⟨k - 1, by omega, i + 1, by omega, ?_⟩
        repeat (first | (simp (maxSteps := 1000000) only [↓reduceIte, go_sem, hp2, g0, g3, g4, e2, e4, e8, e5, e6]) | (simp (maxSteps := 1000000) (disch := first | omega | assumption) only [BB, hp2, g0, g3, g4, e2, e4, e8, e5, e6]) | with_reducible refine Gst.now ?_ | with_reducible refine vawp_draw mixed (by kernel_rfl) ?_ | with_reducible first | refine lwV_out ?_ | refine lwV_out0 ?_ | refine lkC_out ?_ | refine And.intro (by omega) ?_ | fail)
    · have e4 : m / p = 0 := Nat.eq_zero_of_not_pos hz
      have e5 : m % p = m := Nat.mod_eq_of_lt ((Nat.div_eq_zero_iff_lt hp0).1 e4)
      repeat (first | (simp (maxSteps := 1000000) only [↓reduceIte, go_sem, g0, g3, g4, e2, e4, e5]) | (simp (maxSteps := 1000000) (disch := first | omega | assumption) only [BB, g0, g3, g4, e2, e4, e5]) | with_reducible refine Gst.now ?_ | with_reducible refine vawp_draw mixed (by kernel_rfl) ?_ | with_reducible first | refine lwV_out ?_ | refine lwV_out0 ?_ | refine lkC_out ?_ | refine And.intro (by omega) ?_ | fail)
      refine hq _ _ ?_
      repeat (first | (simp (maxSteps := 1000000) only [↓reduceIte, go_sem, g0, g3, g4, e1, e2, e3, e4, e5]) | (simp (maxSteps := 1000000) (disch := first | omega | assumption) only [BB, g0, g3, g4, e1, e2, e3, e4, e5]) | with_reducible refine Gst.now ?_ | with_reducible refine vawp_draw mixed (by kernel_rfl) ?_ | with_reducible first | refine lwV_out ?_ | refine lwV_out0 ?_ | refine lkC_out ?_ | refine And.intro (by omega) ?_ | fail)
      exact .now hK
def zq (m : Int) : Nat := min m.toNat 1099511627776
theorem held_v {m : Int} (hK : K (.sc (.int .i64 ((zq m : Nat)))) h) : VC Tryd.prog GL (n + 1) 23 [(.sc (.int .i64 (m)))] h K := by
  refine VC_go Tryd.func23 rfl (by decide) Tryd.ntmps23 Tryd.results23 rfl fun Q hq hn => ?_
  repeat (first | (simp (maxSteps := 1000000) only [↓reduceIte, go_sem]) | (simp (maxSteps := 1000000) (disch := first | omega | assumption) only [BB]) | with_reducible refine Gst.now ?_ | with_reducible refine vawp_draw mixed (by kernel_rfl) ?_ | with_reducible first | refine lwV_out ?_ | refine lwV_out0 ?_ | refine lkC_out ?_ | refine And.intro (by omega) ?_ | fail)
  refine hq _ _ ?_
  repeat (first | (simp (maxSteps := 1000000) only [↓reduceIte, go_sem]) | (simp (maxSteps := 1000000) (disch := first | omega | assumption) only [BB]) | with_reducible refine Gst.now ?_ | with_reducible refine vawp_draw mixed (by kernel_rfl) ?_ | with_reducible first | refine lwV_out ?_ | refine lwV_out0 ?_ | refine lkC_out ?_ | refine And.intro (by omega) ?_ | fail)
  have e : ((zq m : Nat) : Int) = if 1099511627776 < (if 0 > m then 0 else m) then 1099511627776 else (if 0 > m then 0 else m) := by
    unfold zq; repeat' split
    all_goals omega
  rw [e] at hK
  exact .now hK
theorem zeros_v {s : W32} {m : Int} (hK : K (.sc (.int .u32 (((~~~ (It (8 * zq m) (~~~ s))).toNat : Nat)))) h) : VC Tryd.prog GL (n + 3) 18 [(.sc (.int .u32 ((s.toNat : Nat)))), (.sc (.int .i64 (m)))] h K := by
  refine VC_go Tryd.func18 rfl (by decide) Tryd.ntmps18 Tryd.results18 rfl fun Q hq hn => ?_
  have e1 := com_w s
  repeat (first | (simp (maxSteps := 1000000) only [↓reduceIte, go_sem, e1]) | (simp (maxSteps := 1000000) (disch := first | omega | assumption) only [BB, e1]) | with_reducible refine Gst.now ?_ | with_reducible refine vawp_draw mixed (by kernel_rfl) ?_ | with_reducible first | refine lwV_out ?_ | refine lwV_out0 ?_ | refine lkC_out ?_ | refine And.intro (by omega) ?_ | fail)
  with_reducible refine call_ok ?_
  refine held_v ?_
  repeat (first | (simp (maxSteps := 1000000) only [↓reduceIte, go_sem, e1]) | (simp (maxSteps := 1000000) (disch := first | omega | assumption) only [BB, e1]) | with_reducible refine Gst.now ?_ | with_reducible refine vawp_draw mixed (by kernel_rfl) ?_ | with_reducible first | refine lwV_out ?_ | refine lwV_out0 ?_ | refine lkC_out ?_ | refine And.intro (by omega) ?_ | fail)
  with_reducible refine call_ok ?_
  refine power_v (by unfold zq; omega) ?_
  repeat (first | (simp (maxSteps := 1000000) only [↓reduceIte, go_sem, e1]) | (simp (maxSteps := 1000000) (disch := first | omega | assumption) only [BB, e1]) | with_reducible refine Gst.now ?_ | with_reducible refine vawp_draw mixed (by kernel_rfl) ?_ | with_reducible first | refine lwV_out ?_ | refine lwV_out0 ?_ | refine lkC_out ?_ | refine And.intro (by omega) ?_ | fail)
  with_reducible refine call_ok ?_
  refine times_v ?_
  have e2 : mulP (~~~ s) (It (8 * zq m) one32) = It (8 * zq m) (~~~ s) := by rw [mul_It, mul_r1]
  rw [e2]
  have e3 := com_w (It (8 * zq m) (~~~ s))
  repeat (first | (simp (maxSteps := 1000000) only [↓reduceIte, go_sem, e1, e2, e3]) | (simp (maxSteps := 1000000) (disch := first | omega | assumption) only [BB, e1, e2, e3]) | with_reducible refine Gst.now ?_ | with_reducible refine vawp_draw mixed (by kernel_rfl) ?_ | with_reducible first | refine lwV_out ?_ | refine lwV_out0 ?_ | refine lkC_out ?_ | refine And.intro (by omega) ?_ | fail)
  refine hq _ _ ?_
  repeat (first | (simp (maxSteps := 1000000) only [↓reduceIte, go_sem, e1, e2, e3]) | (simp (maxSteps := 1000000) (disch := first | omega | assumption) only [BB, e1, e2, e3]) | with_reducible refine Gst.now ?_ | with_reducible refine vawp_draw mixed (by kernel_rfl) ?_ | with_reducible first | refine lwV_out ?_ | refine lwV_out0 ?_ | refine lkC_out ?_ | refine And.intro (by omega) ?_ | fail)
  exact .now hK
theorem join_v {s t : W32} {m : Int} (hK : K (.sc (.int .u32 (((It (8 * zq m) s ^^^ t).toNat : Nat)))) h) : VC Tryd.prog GL (n + 3) 17 [(.sc (.int .u32 ((s.toNat : Nat)))), (.sc (.int .u32 ((t.toNat : Nat)))), (.sc (.int .i64 (m)))] h K := by
  refine VC_go Tryd.func17 rfl (by decide) Tryd.ntmps17 Tryd.results17 rfl fun Q hq hn => ?_
  repeat (first | (simp (maxSteps := 1000000) only [↓reduceIte, go_sem]) | (simp (maxSteps := 1000000) (disch := first | omega | assumption) only [BB]) | with_reducible refine Gst.now ?_ | with_reducible refine vawp_draw mixed (by kernel_rfl) ?_ | with_reducible first | refine lwV_out ?_ | refine lwV_out0 ?_ | refine lkC_out ?_ | refine And.intro (by omega) ?_ | fail)
  with_reducible refine call_ok ?_
  refine held_v ?_
  repeat (first | (simp (maxSteps := 1000000) only [↓reduceIte, go_sem]) | (simp (maxSteps := 1000000) (disch := first | omega | assumption) only [BB]) | with_reducible refine Gst.now ?_ | with_reducible refine vawp_draw mixed (by kernel_rfl) ?_ | with_reducible first | refine lwV_out ?_ | refine lwV_out0 ?_ | refine lkC_out ?_ | refine And.intro (by omega) ?_ | fail)
  with_reducible refine call_ok ?_
  refine power_v (by unfold zq; omega) ?_
  repeat (first | (simp (maxSteps := 1000000) only [↓reduceIte, go_sem]) | (simp (maxSteps := 1000000) (disch := first | omega | assumption) only [BB]) | with_reducible refine Gst.now ?_ | with_reducible refine vawp_draw mixed (by kernel_rfl) ?_ | with_reducible first | refine lwV_out ?_ | refine lwV_out0 ?_ | refine lkC_out ?_ | refine And.intro (by omega) ?_ | fail)
  with_reducible refine call_ok ?_
  refine times_v ?_
  have e2 : mulP s (It (8 * zq m) one32) = It (8 * zq m) s := by rw [mul_It, mul_r1]
  rw [e2]
  have e3 := xor_w (It (8 * zq m) s) t
  repeat (first | (simp (maxSteps := 1000000) only [↓reduceIte, go_sem, e2, e3]) | (simp (maxSteps := 1000000) (disch := first | omega | assumption) only [BB, e2, e3]) | with_reducible refine Gst.now ?_ | with_reducible refine vawp_draw mixed (by kernel_rfl) ?_ | with_reducible first | refine lwV_out ?_ | refine lwV_out0 ?_ | refine lkC_out ?_ | refine And.intro (by omega) ?_ | fail)
  refine hq _ _ ?_
  repeat (first | (simp (maxSteps := 1000000) only [↓reduceIte, go_sem, e2, e3]) | (simp (maxSteps := 1000000) (disch := first | omega | assumption) only [BB, e2, e3]) | with_reducible refine Gst.now ?_ | with_reducible refine vawp_draw mixed (by kernel_rfl) ?_ | with_reducible first | refine lwV_out ?_ | refine lwV_out0 ?_ | refine lkC_out ?_ | refine And.intro (by omega) ?_ | fail)
  exact .now hK
end
end Go.Proofs.YtbmidddpddiopaaDoor.VCrc
