/- the laws of chapter 21, over the machine of values: VolumeBack. -/
import Derived.Test.YtgdhfabiljgdpaaProg
import Derived.Test.YtgdhfabiljgdpaaAbV16
import Derived.Test.YtgdhfabiljgdpaaAbFacts
import Derived.Test.YtgdhfabiljgdpaaAbVRows
import Derived.Test.YtgdhfabiljgdpaaAbVRows2
import Derived.Test.YtgdhfabiljgdpaaAbVRows3
import Derived.Test.YtgdhfabiljgdpaaAbVSlots
import Derived.Test.YtgdhfabiljgdpaaAbVSame
import Derived.Test.YtgdhfabiljgdpaaAbVSlots2
import Derived.Test.YtgdhfabiljgdpaaAbVSlots3
import Derived.Test.YtgdhfabiljgdpaaAbVLaw
import Derived.Test.YtgdhfabiljgdpaaAbVLawB
import Derived.Test.YtgdhfabiljgdpaaAbVBack
import Derived.KernelRfl
import Derived.Laws.BitsAllLaws
set_option linter.unusedVariables false
set_option linter.unusedSimpArgs false
set_option maxRecDepth 100000
set_option maxHeartbeats 4000000
namespace Go.Proofs.Ytgdhfabiljgdpaa.VBackB
open Go.RowKit Go.Proofs.AbM Go.Proofs.Ytgdhfabiljgdpaa.Facts Go.Proofs.Ytgdhfabiljgdpaa.VRows Go.Proofs.Ytgdhfabiljgdpaa.VRows2 Go.Proofs.Ytgdhfabiljgdpaa.VRows3 Go.Proofs.Ytgdhfabiljgdpaa.VSlots Go.Proofs.Ytgdhfabiljgdpaa.VSame Go.Proofs.Ytgdhfabiljgdpaa.VSlots2 Go.Proofs.Ytgdhfabiljgdpaa.VSlots3 Go.Proofs.Ytgdhfabiljgdpaa.VLaw Go.Proofs.Ytgdhfabiljgdpaa.VLawB Go.Proofs.Ytgdhfabiljgdpaa.VBack
attribute [local go_sem] vawp_skip_eq vawp_seq_eq vawp_region_eq vawp_cond_g vawp_block_eq vawp_exit_eq vawp_ret_eq thenV_ret thenV_exit thenV_normal inBlockV_normal inBlockV_ret inBlockV_exit resKV_nil resKV_tmp resKV_cell oneV_one oneV_nil oneV_more initV_nil initV_cons updV_at evv_tmp evv_func evv_global evv_int evv_bool evv_str evv_snil evv_pnil evv_agg ofV3_int ofV3_bool ofV3_str ofV3_snil ofV3_pnil vok_tmp vok_func vok_global vok_int vok_bool vok_str vok_snil vok_pnil vok_agg cloV3_int cloV3_bool cloV3_str cloV3_snil cloV3_pnil voks_nil voks_cons scV_int scV_bool scV_str isBlV_b isBV_t isBV_f lwV_none lwV_sc lwV_agg lwV_tup lwV_isl lwV_own lwV_op lwV_ip lwV_fn lwV_junk vops_nil vops_n vops_s gsN_eq vop dstOk_some dstOk_none pkV_b blkV_set eRead_f eRead_t vLoad_op vLoad_ip vStore_op cells_sc cells_isl cells_own cells_op cells_ip cells_fn cells_agg parts_sc parts_isl parts_own parts_op parts_ip parts_fn parts_agg one_sc one_isl one_own one_op one_ip one_fn vField_op vField_ip ePart_f ePart_t vFieldV_agg vIx_isl vIx_own vIx_op vIx_ip vIxV_agg vIxV_str vLen_str vLen_isl vLen_own vLen_agg bndE_none bndE_int vSlice_isl vSlice_str vBin_add vBin_sub vBin_mul vBin_quo vBin_rem vBin_and vBin_or vBin_xor vBin_andNot vBin_eql vBin_neq vBin_lss vBin_leq vBin_gtr vBin_geq vBin_shr_i8 vBin_shl_i8 vBin_shr_i16 vBin_shl_i16 vBin_shr_i32 vBin_shl_i32 vBin_shr_i64 vBin_shl_i64 vBin_shr_u8 vBin_shl_u8 vBin_shr_u16 vBin_shl_u16 vBin_shr_u32 vBin_shl_u32 vBin_shr_u64 vBin_shl_u64 vBin_seq vBin_sne vBin_isln vBin_opn vBin_ipn ex_sc ex_sc2 ex_sc3 ex_tup calleeV wSc_pb wSc_pi wSc_not wSc_neg wSc_com wSc_min2 wSc_max2 vfold_nil vfold_one vfold_cons vfill_nil vfill_e eFill_s vBuild vBox vAlloc setV_map setV_zs setV_zn setV_s hset_hset eConv_ss vConv_e iv_eq ivI_eq ex_get ex_getI set_iv set_ivI okNil isNilV isSlV hdel_at hset_at List.map_toArray List.map_cons List.map_nil List.nil_append List.cons_append List.append_nil List.toList_toArray List.getElem?_toArray List.getElem_toArray List.getElem_cons_zero List.getElem_cons_succ List.getElem?_cons_zero List.getElem?_cons_succ List.set_cons_zero List.set_cons_succ List.set_set List.length_cons List.length_nil List.length_set List.length_map List.all_cons List.all_nil List.drop_zero List.drop_succ_cons List.take_succ_cons List.take_zero List.flatMap_cons Bool.and_eq_true true_and and_true if_true if_false ite_true ite_false forall_eq' forall_eq exists_eq_left exists_eq_left' exists_eq' Value.bool.injEq Value.int.injEq Value.string.injEq Value.pointer.injEq Option.some.injEq AV.sc.injEq AV.op.injEq AV.ip.injEq AV.own.injEq AV.agg.injEq VB.cells.injEq VB.iter.injEq Prod.mk.injEq decide_eq_true_eq decide_eq_false_iff_not Nat.reduceEqDiff Nat.reduceLT Nat.reduceLeDiff Nat.reduceSub Nat.reduceBEq reduceIte Int.reduceLE Int.reduceLT Int.reduceToNat Int.reduceNeg Int.reduceEq Int.reduceNe Int.cast_ofNat_Int Nat.reduceMul Nat.reduceAdd Nat.reduceDiv Nat.reduceMod Nat.reducePow Int.reduceSub Int.reduceAdd Int.reduceMul Int.reducePow Option.isSome_some Option.isSome_none Option.bind_some Option.map_some Option.map_none Option.toList_some Option.toList_none true_or or_true or_false false_or Bool.not_true Bool.not_false Bool.not_eq_true Bool.false_eq_true Bool.not_not false_implies true_implies implies_true Nat.zero_add Nat.add_zero Nat.mul_one Bool.not_eq_true' Bool.true_eq_false Bool.and_true Bool.true_and Bool.and_false Bool.false_and Bool.or_true Bool.true_or Bool.or_false Bool.false_or Option.isNone_some Option.isNone_none Int.reduceBEq Int.reduceBNe beq_self_eq_true bne_self_eq_false beq_iff_eq not_false_eq_true not_true_eq_false Decidable.not_not bne_iff_ne ne_eq Int.toNat_natCast gt_lt ge_le c_add c_mul c_sub c_addn c_nadd c_muln c_nmul c_subn c_nsub c_divn c_modn c_div c_mod c_tdivn c_tmodn c_tdiv c_tmod c_pow c_nn c_beq c_beqn c_bne c_bnen wr64 wr32 wru64 wru32 wru16 wru8 c_if c_if1 c_if2 c_lt c_le c_eq c_ltn c_len c_nlt c_nle c_eqn m_drop m_take Nat.add_sub_cancel_left Nat.add_sub_cancel Int.reduceTMod Int.reduceTDiv Int.reduceMod Int.reduceDiv isC_some hset_ne hdel_ne hdel_hset hdel_hset_ne blkV_nset blkV_ndel hset_hdel gV_t gV_f isGdV_b isGdV_u isBV_u isGdV_g isBV_gt isBV_gf decide_true decide_false Bool.or_eq_false_iff eq_self Nat.lt_irrefl Int.lt_irrefl Nat.le_refl Int.le_refl
attribute [local go_sem high] vops_pk vops_mv vops_as vops_smv pk_and pk_or pk_gand pk_gor pk_orn pk_gorn
attribute [local go_sem] ag3 sz3 zc3 ik3 ag4 sz4 zc4 ag5 sz5 zc5 ik5 ag9 sz9 zc9 iq9 ag22 sz22 el22 zc22 is22 ag24 sz24 el24 zc24 is24 ag25 sz25 el25 zc25 is25 ag27 sz27 zc27 bo27 ag29 sz29 zc29 ik29 ag41 sz41 zc41 eqs41 nes41 bo41 ag55 sz55 zc55 of27_0 fd27_0 of27_1 fd27_1 of41_0 fd41_0 of41_1 fd41_1 eqb neb
section
variable {n : Nat} {h : VH} {K : AV → VH → Prop}
attribute [local go_sem] rowC rowA ex_row row_len row_take row_drop Nat.sub_zero Nat.zero_le slotC ex_slot0 ex_slot1 slot_len slot_take
theorem and4095 (n : Int) : bits .and .i64 n 4095 = (((n % 4096).toNat : Nat) : Int) := by
  have h31 : (BitVec.ofInt 64 4095).toNat = 2 ^ 12 - 1 := by decide
  have key : (BitVec.ofInt 64 n &&& BitVec.ofInt 64 4095).toNat = (n % ((2 ^ 64 : Nat) : Int)).toNat % 2 ^ 12 := by
    rw [BitVec.toNat_and, BitVec.toNat_ofInt, h31, Nat.and_two_pow_sub_one_eq_mod]
  show IntKind.i64.wrap ((BitVec.ofInt 64 n &&& BitVec.ofInt 64 4095).toNat : Nat) = _
  rw [key, IntKind.wrap_i64]
  omega
/-- where a byte of all stands -/
theorem place_at {rs : List RowV} {at_ : Nat} (h : at_ ≤ (joinR rs).length) : ∃ d a, placeR rs (at_ : Int) = some (d, a) ∧ InP rs d a ∧ at_ = (joinR (rs.take d)).length + a ∧ (at_ < (joinR rs).length → d < rs.length ∧ a < (rs.getD d default).bs.length ∧ (joinR rs).getD at_ 0 = (rs.getD d default).bs.getD a 0) := by
  have hp0 : placeR rs (at_ : Int) = placeN rs 0 at_ := by unfold placeR; rw [if_neg (by omega), Int.toNat_natCast]
  cases hp : placeN rs 0 at_ with
  | none => exact absurd ((placeN_none rs 0 at_).1 hp) (by omega)
  | some pa =>
    obtain ⟨d, a⟩ := pa
    obtain ⟨i, e1, e2, e3, e4⟩ := placeN_some rs 0 at_ d a hp
    rw [Nat.zero_add] at e1
    subst e1
    refine ⟨d, a, hp0.trans hp, e4, e3, fun hlt => ?_⟩
    rcases e4 with ⟨f1, f2⟩ | ⟨f1, f2⟩
    · rw [f1, List.take_length] at e3; omega
    · refine ⟨f1, f2, ?_⟩
      rw [joinR_split f1, e3, List.getD_eq_getElem?_getD, List.getElem?_append_right (by omega), Nat.add_sub_cancel_left, List.getElem?_append_left f2, ← List.getD_eq_getElem?_getD]
def mixB (bs : List Nat) (k : Nat) : List Nat := (bs.take k).map x1 ++ bs.drop k
theorem mixB_len (bs : List Nat) (k : Nat) : (mixB bs k).length = bs.length := by simp [mixB]; omega
theorem mixB_0 (bs : List Nat) : mixB bs 0 = bs := by simp [mixB]
theorem mixB_end (bs : List Nat) : mixB bs bs.length = bs.map x1 := by simp [mixB]
theorem mixB_get {bs : List Nat} {k : Nat} (hk : k < bs.length) : (mixB bs k).getD k 0 = bs.getD k 0 := by
  unfold mixB
  rw [List.getD_eq_getElem?_getD, List.getElem?_append_right (by simp; omega), List.getElem?_drop, List.getD_eq_getElem?_getD]
  simp [show min k bs.length = k by omega]
theorem mixB_set {bs : List Nat} {k : Nat} (hk : k < bs.length) : (mixB bs k).set k (x1 (bs.getD k 0)) = mixB bs (k + 1) := by
  unfold mixB
  rw [List.set_append_right _ _ (by simp; omega), drop_consD (xs := bs) hk, List.length_map, List.length_take, show k - min k bs.length = 0 by omega, List.set_cons_zero, take_snocD hk, List.map_append, List.append_assoc]
  rfl
def tS (r : RowV) : SlotV := ⟨true, r⟩
structure W1 (rs : List RowV) (ws : List SlotV) (i : Nat) : Prop where
  len : ws.length = rs.length
  at_ : ∀ m, m < rs.length → ws.getD m default = if m < i then xorS (tS (rs.getD m default)) else tS (rs.getD m default)
structure W2 (rs : List RowV) (ws : List SlotV) (i k : Nat) : Prop where
  len : ws.length = rs.length
  at_ : ∀ m, m < rs.length → ws.getD m default = if m < i then xorS (tS (rs.getD m default)) else if m = i then ⟨true, ⟨(rs.getD i default).nl, mixB (rs.getD i default).bs k⟩⟩ else tS (rs.getD m default)
theorem W1.inn {rs : List RowV} {ws : List SlotV} {i : Nat} (w : W1 rs ws i) : W2 rs ws i 0 := by
  refine ⟨w.len, fun m hm => ?_⟩
  rw [w.at_ m hm]
  by_cases h1 : m < i
  · rw [if_pos h1, if_pos h1]
  · rw [if_neg h1, if_neg h1]
    by_cases h2 : m = i
    · rw [if_pos h2, mixB_0, h2]; rfl
    · rw [if_neg h2]
theorem W2.out {rs : List RowV} {ws : List SlotV} {i : Nat} (w : W2 rs ws i (rs.getD i default).bs.length) : W1 rs ws (i + 1) := by
  refine ⟨w.len, fun m hm => ?_⟩
  rw [w.at_ m hm]
  by_cases h1 : m < i
  · rw [if_pos h1, if_pos (by omega)]
  · rw [if_neg h1]
    by_cases h2 : m = i
    · rw [if_pos h2, if_pos (by omega), mixB_end, h2]; rfl
    · rw [if_neg h2, if_neg (by omega)]
theorem W2.at_i {rs : List RowV} {ws : List SlotV} {i k : Nat} (w : W2 rs ws i k) (hi : i < rs.length) : ws.getD i default = ⟨true, ⟨(rs.getD i default).nl, mixB (rs.getD i default).bs k⟩⟩ := by
  rw [w.at_ i hi, if_neg (by omega), if_pos rfl]
theorem W2.step {rs : List RowV} {ws : List SlotV} {i k : Nat} (w : W2 rs ws i k) (hi : i < rs.length) (hn : (rs.getD i default).nl = false) : W2 rs (ws.set i ⟨(ws.getD i default).there, ⟨false, mixB (rs.getD i default).bs (k + 1)⟩⟩) i (k + 1) := by
  refine ⟨by rw [List.length_set]; exact w.len, fun m hm => ?_⟩
  rw [getD_set (by rw [w.len]; exact hi)]
  by_cases h2 : m = i
  · rw [if_pos h2, if_neg (by omega), if_pos h2, w.at_i hi, hn]
  · rw [if_neg h2, w.at_ m hm, if_neg h2, if_neg h2]
theorem back_v {nl : Bool} {l : Nat} {rs : List RowV} {cut : Int} (hl : l = rs.length) (hb : rs.length ≤ 140737488355328) (hr8 : ∀ r ∈ rs, ∀ b ∈ r.bs, b < 256) (hr : ∀ r ∈ rs, r.bs.length ≤ 140737488355328 ∧ (r.nl = true → r.bs = [])) (hK : ∀ h', K (.sc (.bool (true))) h') : VC Try.prog GL (n + 8) 4 [.isl nl l (rs.flatMap rowC), (.sc (.int .i64 (cut)))] h K := by
  refine VC_go Try.func4 rfl (by decide) Try.ntmps4 Try.results4 rfl fun Q hq hn => ?_
  subst hl
  repeat (first | (simp (maxSteps := 1000000) only [↓reduceIte, go_sem]) | (simp (maxSteps := 1000000) (disch := first | omega | assumption) only [BB]) | with_reducible refine Gst.now ?_ | with_reducible refine vawp_draw mixed (by kernel_rfl) ?_ | with_reducible first | refine lwV_out ?_ | refine lwV_out0 ?_ | refine lkC_out ?_ | refine And.intro (by omega) ?_ | fail)
  with_reducible refine call_ok ?_
  refine alive_v ?_
  repeat (first | (simp (maxSteps := 1000000) only [↓reduceIte, go_sem]) | (simp (maxSteps := 1000000) (disch := first | omega | assumption) only [BB]) | with_reducible refine Gst.now ?_ | with_reducible refine vawp_draw mixed (by kernel_rfl) ?_ | with_reducible first | refine lwV_out ?_ | refine lwV_out0 ?_ | refine lkC_out ?_ | refine And.intro (by omega) ?_ | fail)
  with_reducible refine call_ok ?_
  refine few_u rfl hb ?_
  cases hf : fewB rs with
  | false =>
    repeat (first | (simp (maxSteps := 1000000) only [↓reduceIte, go_sem]) | (simp (maxSteps := 1000000) (disch := first | omega | assumption) only [BB]) | with_reducible refine Gst.now ?_ | with_reducible refine vawp_draw mixed (by kernel_rfl) ?_ | with_reducible first | refine lwV_out ?_ | refine lwV_out0 ?_ | refine lkC_out ?_ | refine And.intro (by omega) ?_ | fail)
    refine hq _ _ ?_
    repeat (first | (simp (maxSteps := 1000000) only [↓reduceIte, go_sem]) | (simp (maxSteps := 1000000) (disch := first | omega | assumption) only [BB]) | with_reducible refine Gst.now ?_ | with_reducible refine vawp_draw mixed (by kernel_rfl) ?_ | with_reducible first | refine lwV_out ?_ | refine lwV_out0 ?_ | refine lkC_out ?_ | refine And.intro (by omega) ?_ | fail)
    exact .now (hK _)
  | true =>
    obtain ⟨h20, h60, hL⟩ := few_len hf
    have hnil : ∀ r ∈ rs, r.nl = true → r.bs = [] := fun r h1 => (hr r h1).2
    have hrl : ∀ r ∈ rs, r.bs.length ≤ 140737488355328 := fun r h1 => (hr r h1).1
    have hpl := fun at_ => @place_at rs at_
    have hmemb := fun d => @getD_mem RowV _ rs d
    repeat (first | (simp (maxSteps := 1000000) only [↓reduceIte, go_sem]) | (simp (maxSteps := 1000000) (disch := first | omega | assumption) only [BB]) | with_reducible refine Gst.now ?_ | with_reducible refine vawp_draw mixed (by kernel_rfl) ?_ | with_reducible first | refine lwV_out ?_ | refine lwV_out0 ?_ | refine lkC_out ?_ | refine And.intro (by omega) ?_ | fail)
    with_reducible refine call_ok ?_
    refine size_u rfl rfl hb (by omega) ?_
    generalize hN : (joinR rs).length = N at *
    repeat (first | (simp (maxSteps := 1000000) only [↓reduceIte, go_sem]) | (simp (maxSteps := 1000000) (disch := first | omega | assumption) only [BB]) | with_reducible refine Gst.now ?_ | with_reducible refine vawp_draw mixed (by kernel_rfl) ?_ | with_reducible first | refine lwV_out ?_ | refine lwV_out0 ?_ | refine lkC_out ?_ | refine And.intro (by omega) ?_ | fail)
    refine vawp_loop (k := N + 1) (fun c ρ h1 => ∃ at_ : Nat, c + at_ = N + 1 ∧ ρ 0 = .isl nl rs.length (rs.flatMap rowC) ∧ ρ 1 = (.sc (.int .i64 (cut))) ∧ ρ 5 = (.sc (.int .i64 ((N : Nat)))) ∧ ρ 29 = (.sc (.int .i64 ((N + 1 : Nat)))) ∧ ρ 30 = (.sc (.int .i64 ((at_ : Nat)))) ∧ h1 = h) ?_ ?_
    · refine ⟨0, by omega, ?_⟩
      repeat (first | (simp (maxSteps := 1000000) only [↓reduceIte, go_sem]) | (simp (maxSteps := 1000000) (disch := first | omega | assumption) only [BB]) | with_reducible refine Gst.now ?_ | with_reducible refine vawp_draw mixed (by kernel_rfl) ?_ | with_reducible first | refine lwV_out ?_ | refine lwV_out0 ?_ | refine lkC_out ?_ | refine And.intro (by omega) ?_ | fail)
    · rintro c ρ h1 ⟨at_, hc, g0, g1, g5, g29, g30, rfl⟩
      by_cases hat : at_ < N + 1
      · have e1 := eq_true hat
        obtain ⟨d, a, p1, p2, p3, p4⟩ := hpl at_ (by omega)
        repeat (first | (simp (maxSteps := 1000000) only [↓reduceIte, go_sem, g0, g1, g5, g29, g30, e1]) | (simp (maxSteps := 1000000) (disch := first | omega | assumption) only [BB, g0, g1, g5, g29, g30, e1]) | with_reducible refine Gst.now ?_ | with_reducible refine vawp_draw mixed (by kernel_rfl) ?_ | with_reducible first | refine lwV_out ?_ | refine lwV_out0 ?_ | refine lkC_out ?_ | refine And.intro (by omega) ?_ | fail)
        with_reducible refine call_ok ?_
        refine place_v rfl hb hrl (by omega) (fun hn => absurd (hn.symm.trans p1) (by simp)) (fun d' a' hp => ?_)
        rw [p1] at hp
        simp only [Option.some.injEq, Prod.mk.injEq] at hp
        obtain ⟨rfl, rfl⟩ := hp
        repeat (first | (simp (maxSteps := 1000000) only [↓reduceIte, go_sem, g0, g1, g5, g29, g30, e1]) | (simp (maxSteps := 1000000) (disch := first | omega | assumption) only [BB, g0, g1, g5, g29, g30, e1]) | with_reducible refine Gst.now ?_ | with_reducible refine vawp_draw mixed (by kernel_rfl) ?_ | with_reducible first | refine lwV_out ?_ | refine lwV_out0 ?_ | refine lkC_out ?_ | refine And.intro (by omega) ?_ | fail)
        intro p hp
        repeat (first | (simp (maxSteps := 1000000) only [↓reduceIte, go_sem, g0, g1, g5, g29, g30, e1]) | (simp (maxSteps := 1000000) (disch := first | omega | assumption) only [BB, g0, g1, g5, g29, g30, e1]) | with_reducible refine vawp_draw mixed (by kernel_rfl) ?_ | with_reducible first | refine lwV_out ?_ | refine lwV_out0 ?_ | refine lkC_out ?_ | refine And.intro (by omega) ?_ | fail)
        refine .box 7 p hp rfl (.now ?_)
        repeat (first | (simp (maxSteps := 1000000) only [↓reduceIte, go_sem, g0, g1, g5, g29, g30, e1]) | (simp (maxSteps := 1000000) (disch := first | omega | assumption) only [BB, g0, g1, g5, g29, g30, e1]) | with_reducible refine Gst.now ?_ | with_reducible refine vawp_draw mixed (by kernel_rfl) ?_ | with_reducible first | refine lwV_out ?_ | refine lwV_out0 ?_ | refine lkC_out ?_ | refine And.intro (by omega) ?_ | fail)
        with_reducible refine call_ok ?_
        refine index_v rfl hb (by omega) p2 ?_
        rw [← p3]
        by_cases hlt : at_ < N
        · obtain ⟨q1, q2, q3⟩ := p4 hlt
          have e2 := eq_true hlt
          have e3 := eq_true q1
          have e4 := eq_true q2
          have e5 := decide_eq_true hlt
          have e6 : (at_ < (joinR rs).length) = True := eq_true (by omega)
          have e7 := q3
          repeat (first | (simp (maxSteps := 1000000) only [↓reduceIte, go_sem, g0, g1, g5, g29, g30, e1, e2, e3, e4, e5, e6, e7]) | (simp (maxSteps := 1000000) (disch := first | omega | assumption) only [BB, g0, g1, g5, g29, g30, e1, e2, e3, e4, e5, e6, e7]) | with_reducible refine Gst.now ?_ | with_reducible first | refine lwV_out ?_ | refine lwV_out0 ?_ | refine lkC_out ?_ | refine And.intro (by omega) ?_ | fail)
          apply vawp_quiet 20 0 mixed
          case hk => rfl
          case hok => kernel_rfl
          simp only [List.toList_toArray, List.take_succ_cons, List.take_zero]
          repeat (first | (apply vopsQ_pk; (case hd => rfl); (case h1 => simp (disch := first | omega | assumption) only [↓reduceIte, go_sem, g0, g1, g5, g29, g30, e1, e2, e3, e4, e5, e6, e7]); (case h2 => simp (disch := first | omega | assumption) only [↓reduceIte, go_sem, g0, g1, g5, g29, g30, e1, e2, e3, e4, e5, e6, e7]); (case h3 => simp (disch := first | omega | assumption) only [↓reduceIte, go_sem, g0, g1, g5, g29, g30, e1, e2, e3, e4, e5, e6, e7]); (case hb => simp (disch := first | omega | assumption) only [↓reduceIte, go_sem, g0, g1, g5, g29, g30, e1, e2, e3, e4, e5, e6, e7]); (try simp (disch := first | omega | assumption) only [↓reduceIte, go_sem, g0, g1, g5, g29, g30, e1, e2, e3, e4, e5, e6, e7])) | (apply vopsQ_n; (case hd => rfl); (case hq => (intro K' hk'; repeat (first | simp (maxSteps := 4000000) (disch := first | omega | assumption) only [↓reduceIte, go_sem, g0, g1, g5, g29, g30, e1, e2, e3, e4, e5, e6, e7] | with_reducible refine Gst.now ?_ | with_reducible refine vawp_draw mixed (by kernel_rfl) ?_ | with_reducible first | refine lwV_out ?_ | refine lwV_out0 ?_ | refine lkC_out ?_ | refine And.intro (by omega) ?_ | fail); exact hk'))) | (apply vopsQ_gt; (case hd => rfl); (case h1 => rfl); (case h2 => rfl); (case h3 => simp (disch := first | omega | assumption) only [↓reduceIte, go_sem]); (case hq => (intro K' hk'; repeat (first | simp (maxSteps := 4000000) (disch := first | omega | assumption) only [↓reduceIte, go_sem, g0, g1, g5, g29, g30, e1, e2, e3, e4, e5, e6, e7] | with_reducible refine Gst.now ?_ | with_reducible refine vawp_draw mixed (by kernel_rfl) ?_ | with_reducible first | refine lwV_out ?_ | refine lwV_out0 ?_ | refine lkC_out ?_ | refine And.intro (by omega) ?_ | fail); exact hk'))) | (apply vopsQ_gf'; (case hd => rfl); (case h1 => rfl); (case h2 => rfl); (case h3 => simp (disch := first | omega | assumption) only [↓reduceIte, go_sem, g0, g1, g5, g29, g30, e1, e2, e3, e4, e5, e6, e7])) | (apply vopsQ_gj; (case hd => rfl); (case h1 => rfl); (case h2 => rfl); (case h3 => simp (disch := first | omega | assumption) only [↓reduceIte, go_sem, g0, g1, g5, g29, g30, e1, e2, e3, e4, e5, e6, e7])) | (apply vopsQ_gpk; (case hd => rfl); (case h1 => rfl); (case h2 => rfl); (case h3 => simp (disch := first | omega | assumption) only [↓reduceIte, go_sem, g0, g1, g5, g29, g30, e1, e2, e3, e4, e5, e6, e7]); (case k1 => simp (disch := first | omega | assumption) only [↓reduceIte, go_sem, g0, g1, g5, g29, g30, e1, e2, e3, e4, e5, e6, e7]); (case k2 => simp (disch := first | omega | assumption) only [↓reduceIte, go_sem, g0, g1, g5, g29, g30, e1, e2, e3, e4, e5, e6, e7]); (case k3 => simp (disch := first | omega | assumption) only [↓reduceIte, go_sem, g0, g1, g5, g29, g30, e1, e2, e3, e4, e5, e6, e7]); (case hb => (intro hc; (try simp (disch := first | omega | assumption) only [↓reduceIte, go_sem, g0, g1, g5, g29, g30, e1, e2, e3, e4, e5, e6, e7] at hc); simp (disch := first | omega | assumption) only [↓reduceIte, go_sem, hc, g0, g1, g5, g29, g30, e1, e2, e3, e4, e5, e6, e7])); (try simp (disch := first | omega | assumption) only [↓reduceIte, go_sem, g0, g1, g5, g29, g30, e1, e2, e3, e4, e5, e6, e7])) | (apply vopsQ_gu; (case hd => rfl); (case h1 => rfl); (case h2 => rfl); (case h3 => simp (disch := first | omega | assumption) only [↓reduceIte, go_sem, g0, g1, g5, g29, g30, e1, e2, e3, e4, e5, e6, e7]); (case hq => (intro hc K' hk'; (try simp (disch := first | omega | assumption) only [↓reduceIte, go_sem, g0, g1, g5, g29, g30, e1, e2, e3, e4, e5, e6, e7] at hc); repeat (first | simp (maxSteps := 4000000) (disch := first | omega | assumption) only [↓reduceIte, go_sem, hc, g0, g1, g5, g29, g30, e1, e2, e3, e4, e5, e6, e7] | with_reducible refine Gst.now ?_ | with_reducible refine vawp_draw mixed (by kernel_rfl) ?_ | with_reducible first | refine lwV_out ?_ | refine lwV_out0 ?_ | refine lkC_out ?_ | refine And.intro (by omega) ?_ | fail); exact hk')); (try simp (disch := first | omega | assumption) only [↓reduceIte, go_sem, g0, g1, g5, g29, g30, e1, e2, e3, e4, e5, e6, e7])) | fail)
          first | (apply vopsQ_n; (case hd => rfl)) | (apply vopsQ_gt; (case hd => rfl); (case h1 => rfl); (case h2 => rfl); (case h3 => simp (disch := first | omega | assumption) only [↓reduceIte, go_sem]))
          case hq => (intro K' hk'; repeat (first | simp (maxSteps := 4000000) (disch := first | omega | assumption) only [↓reduceIte, go_sem] | with_reducible refine Gst.now ?_ | with_reducible refine vawp_draw mixed (by kernel_rfl) ?_ | with_reducible first | refine lwV_out ?_ | refine lwV_out0 ?_ | refine lkC_out ?_ | refine And.intro (by omega) ?_ | fail); refine call_ok ?_; refine join_v rfl hb (by omega) ?_; exact hk')
          repeat (first | (apply vopsQ_pk; (case hd => rfl); (case h1 => simp (disch := first | omega | assumption) only [↓reduceIte, go_sem, g0, g1, g5, g29, g30, e1, e2, e3, e4, e5, e6, e7]); (case h2 => simp (disch := first | omega | assumption) only [↓reduceIte, go_sem, g0, g1, g5, g29, g30, e1, e2, e3, e4, e5, e6, e7]); (case h3 => simp (disch := first | omega | assumption) only [↓reduceIte, go_sem, g0, g1, g5, g29, g30, e1, e2, e3, e4, e5, e6, e7]); (case hb => simp (disch := first | omega | assumption) only [↓reduceIte, go_sem, g0, g1, g5, g29, g30, e1, e2, e3, e4, e5, e6, e7]); (try simp (disch := first | omega | assumption) only [↓reduceIte, go_sem, g0, g1, g5, g29, g30, e1, e2, e3, e4, e5, e6, e7])) | (apply vopsQ_n; (case hd => rfl); (case hq => (intro K' hk'; repeat (first | simp (maxSteps := 4000000) (disch := first | omega | assumption) only [↓reduceIte, go_sem, g0, g1, g5, g29, g30, e1, e2, e3, e4, e5, e6, e7] | with_reducible refine Gst.now ?_ | with_reducible refine vawp_draw mixed (by kernel_rfl) ?_ | with_reducible first | refine lwV_out ?_ | refine lwV_out0 ?_ | refine lkC_out ?_ | refine And.intro (by omega) ?_ | fail); exact hk'))) | (apply vopsQ_gt; (case hd => rfl); (case h1 => rfl); (case h2 => rfl); (case h3 => simp (disch := first | omega | assumption) only [↓reduceIte, go_sem]); (case hq => (intro K' hk'; repeat (first | simp (maxSteps := 4000000) (disch := first | omega | assumption) only [↓reduceIte, go_sem, g0, g1, g5, g29, g30, e1, e2, e3, e4, e5, e6, e7] | with_reducible refine Gst.now ?_ | with_reducible refine vawp_draw mixed (by kernel_rfl) ?_ | with_reducible first | refine lwV_out ?_ | refine lwV_out0 ?_ | refine lkC_out ?_ | refine And.intro (by omega) ?_ | fail); exact hk'))) | (apply vopsQ_gf'; (case hd => rfl); (case h1 => rfl); (case h2 => rfl); (case h3 => simp (disch := first | omega | assumption) only [↓reduceIte, go_sem, g0, g1, g5, g29, g30, e1, e2, e3, e4, e5, e6, e7])) | (apply vopsQ_gj; (case hd => rfl); (case h1 => rfl); (case h2 => rfl); (case h3 => simp (disch := first | omega | assumption) only [↓reduceIte, go_sem, g0, g1, g5, g29, g30, e1, e2, e3, e4, e5, e6, e7])) | (apply vopsQ_gpk; (case hd => rfl); (case h1 => rfl); (case h2 => rfl); (case h3 => simp (disch := first | omega | assumption) only [↓reduceIte, go_sem, g0, g1, g5, g29, g30, e1, e2, e3, e4, e5, e6, e7]); (case k1 => simp (disch := first | omega | assumption) only [↓reduceIte, go_sem, g0, g1, g5, g29, g30, e1, e2, e3, e4, e5, e6, e7]); (case k2 => simp (disch := first | omega | assumption) only [↓reduceIte, go_sem, g0, g1, g5, g29, g30, e1, e2, e3, e4, e5, e6, e7]); (case k3 => simp (disch := first | omega | assumption) only [↓reduceIte, go_sem, g0, g1, g5, g29, g30, e1, e2, e3, e4, e5, e6, e7]); (case hb => (intro hc; (try simp (disch := first | omega | assumption) only [↓reduceIte, go_sem, g0, g1, g5, g29, g30, e1, e2, e3, e4, e5, e6, e7] at hc); simp (disch := first | omega | assumption) only [↓reduceIte, go_sem, hc, g0, g1, g5, g29, g30, e1, e2, e3, e4, e5, e6, e7])); (try simp (disch := first | omega | assumption) only [↓reduceIte, go_sem, g0, g1, g5, g29, g30, e1, e2, e3, e4, e5, e6, e7])) | (apply vopsQ_gu; (case hd => rfl); (case h1 => rfl); (case h2 => rfl); (case h3 => simp (disch := first | omega | assumption) only [↓reduceIte, go_sem, g0, g1, g5, g29, g30, e1, e2, e3, e4, e5, e6, e7]); (case hq => (intro hc K' hk'; (try simp (disch := first | omega | assumption) only [↓reduceIte, go_sem, g0, g1, g5, g29, g30, e1, e2, e3, e4, e5, e6, e7] at hc); repeat (first | simp (maxSteps := 4000000) (disch := first | omega | assumption) only [↓reduceIte, go_sem, hc, g0, g1, g5, g29, g30, e1, e2, e3, e4, e5, e6, e7] | with_reducible refine Gst.now ?_ | with_reducible refine vawp_draw mixed (by kernel_rfl) ?_ | with_reducible first | refine lwV_out ?_ | refine lwV_out0 ?_ | refine lkC_out ?_ | refine And.intro (by omega) ?_ | fail); exact hk')); (try simp (disch := first | omega | assumption) only [↓reduceIte, go_sem, g0, g1, g5, g29, g30, e1, e2, e3, e4, e5, e6, e7])) | fail)
          simp only [vopsQ_nil]
          refine vany_end (by kernel_rfl) ?_
          repeat (first | (simp (maxSteps := 1000000) only [↓reduceIte, go_sem, g0, g1, g5, g29, g30, e1, e2, e3, e4, e5, e6, e7]) | (simp (maxSteps := 1000000) (disch := first | omega | assumption) only [BB, g0, g1, g5, g29, g30, e1, e2, e3, e4, e5, e6, e7]) | with_reducible refine Gst.now ?_ | with_reducible refine vawp_draw mixed (by kernel_rfl) ?_ | with_reducible first | refine lwV_out ?_ | refine lwV_out0 ?_ | refine lkC_out ?_ | refine And.intro (by omega) ?_ | fail)
          exact ⟨c - 1, by omega, at_ + 1, by omega, rfl⟩
        · have e2 := eq_false hlt
          have e5 := decide_eq_false hlt
          repeat (first | (simp (maxSteps := 1000000) only [↓reduceIte, go_sem, g0, g1, g5, g29, g30, e1, e2, e5]) | (simp (maxSteps := 1000000) (disch := first | omega | assumption) only [BB, g0, g1, g5, g29, g30, e1, e2, e5]) | with_reducible refine Gst.now ?_ | with_reducible first | refine lwV_out ?_ | refine lwV_out0 ?_ | refine lkC_out ?_ | refine And.intro (by omega) ?_ | fail)
          apply vawp_quiet 20 0 mixed
          case hk => rfl
          case hok => kernel_rfl
          simp only [List.toList_toArray, List.take_succ_cons, List.take_zero]
          repeat (first | (apply vopsQ_pk; (case hd => rfl); (case h1 => simp (disch := first | omega | assumption) only [↓reduceIte, go_sem, g0, g1, g5, g29, g30, e1, e2, e5]); (case h2 => simp (disch := first | omega | assumption) only [↓reduceIte, go_sem, g0, g1, g5, g29, g30, e1, e2, e5]); (case h3 => simp (disch := first | omega | assumption) only [↓reduceIte, go_sem, g0, g1, g5, g29, g30, e1, e2, e5]); (case hb => simp (disch := first | omega | assumption) only [↓reduceIte, go_sem, g0, g1, g5, g29, g30, e1, e2, e5]); (try simp (disch := first | omega | assumption) only [↓reduceIte, go_sem, g0, g1, g5, g29, g30, e1, e2, e5])) | (apply vopsQ_n; (case hd => rfl); (case hq => (intro K' hk'; repeat (first | simp (maxSteps := 4000000) (disch := first | omega | assumption) only [↓reduceIte, go_sem, g0, g1, g5, g29, g30, e1, e2, e5] | with_reducible refine Gst.now ?_ | with_reducible refine vawp_draw mixed (by kernel_rfl) ?_ | with_reducible first | refine lwV_out ?_ | refine lwV_out0 ?_ | refine lkC_out ?_ | refine And.intro (by omega) ?_ | fail); exact hk'))) | (apply vopsQ_gt; (case hd => rfl); (case h1 => rfl); (case h2 => rfl); (case h3 => simp (disch := first | omega | assumption) only [↓reduceIte, go_sem]); (case hq => (intro K' hk'; repeat (first | simp (maxSteps := 4000000) (disch := first | omega | assumption) only [↓reduceIte, go_sem, g0, g1, g5, g29, g30, e1, e2, e5] | with_reducible refine Gst.now ?_ | with_reducible refine vawp_draw mixed (by kernel_rfl) ?_ | with_reducible first | refine lwV_out ?_ | refine lwV_out0 ?_ | refine lkC_out ?_ | refine And.intro (by omega) ?_ | fail); exact hk'))) | (apply vopsQ_gf'; (case hd => rfl); (case h1 => rfl); (case h2 => rfl); (case h3 => simp (disch := first | omega | assumption) only [↓reduceIte, go_sem, g0, g1, g5, g29, g30, e1, e2, e5])) | (apply vopsQ_gj; (case hd => rfl); (case h1 => rfl); (case h2 => rfl); (case h3 => simp (disch := first | omega | assumption) only [↓reduceIte, go_sem, g0, g1, g5, g29, g30, e1, e2, e5])) | (apply vopsQ_gpk; (case hd => rfl); (case h1 => rfl); (case h2 => rfl); (case h3 => simp (disch := first | omega | assumption) only [↓reduceIte, go_sem, g0, g1, g5, g29, g30, e1, e2, e5]); (case k1 => simp (disch := first | omega | assumption) only [↓reduceIte, go_sem, g0, g1, g5, g29, g30, e1, e2, e5]); (case k2 => simp (disch := first | omega | assumption) only [↓reduceIte, go_sem, g0, g1, g5, g29, g30, e1, e2, e5]); (case k3 => simp (disch := first | omega | assumption) only [↓reduceIte, go_sem, g0, g1, g5, g29, g30, e1, e2, e5]); (case hb => (intro hc; (try simp (disch := first | omega | assumption) only [↓reduceIte, go_sem, g0, g1, g5, g29, g30, e1, e2, e5] at hc); simp (disch := first | omega | assumption) only [↓reduceIte, go_sem, hc, g0, g1, g5, g29, g30, e1, e2, e5])); (try simp (disch := first | omega | assumption) only [↓reduceIte, go_sem, g0, g1, g5, g29, g30, e1, e2, e5])) | (apply vopsQ_gu; (case hd => rfl); (case h1 => rfl); (case h2 => rfl); (case h3 => simp (disch := first | omega | assumption) only [↓reduceIte, go_sem, g0, g1, g5, g29, g30, e1, e2, e5]); (case hq => (intro hc K' hk'; (try simp (disch := first | omega | assumption) only [↓reduceIte, go_sem, g0, g1, g5, g29, g30, e1, e2, e5] at hc); repeat (first | simp (maxSteps := 4000000) (disch := first | omega | assumption) only [↓reduceIte, go_sem, hc, g0, g1, g5, g29, g30, e1, e2, e5] | with_reducible refine Gst.now ?_ | with_reducible refine vawp_draw mixed (by kernel_rfl) ?_ | with_reducible first | refine lwV_out ?_ | refine lwV_out0 ?_ | refine lkC_out ?_ | refine And.intro (by omega) ?_ | fail); exact hk')); (try simp (disch := first | omega | assumption) only [↓reduceIte, go_sem, g0, g1, g5, g29, g30, e1, e2, e5])) | fail)
          simp only [vopsQ_nil]
          refine vany_end (by kernel_rfl) ?_
          repeat (first | (simp (maxSteps := 1000000) only [↓reduceIte, go_sem, g0, g1, g5, g29, g30, e1, e2, e5]) | (simp (maxSteps := 1000000) (disch := first | omega | assumption) only [BB, g0, g1, g5, g29, g30, e1, e2, e5]) | with_reducible refine Gst.now ?_ | with_reducible refine vawp_draw mixed (by kernel_rfl) ?_ | with_reducible first | refine lwV_out ?_ | refine lwV_out0 ?_ | refine lkC_out ?_ | refine And.intro (by omega) ?_ | fail)
          exact ⟨c - 1, by omega, at_ + 1, by omega, rfl⟩
      · have e1 := eq_false hat
        have e2 := and4095 cut
        generalize (cut % 4096).toNat = x at *
        have e3 : (x : Int).tmod ((N + 1 : Nat) : Int) = ((x % (N + 1) : Nat) : Int) := (Int.ofNat_tmod ..).symm
        have hcN : x % (N + 1) ≤ N := by have := Nat.mod_lt x (show 0 < N + 1 by omega); omega
        generalize hcx : x % (N + 1) = cu at *
        have o1 : okB rs 0 cu = true := decide_eq_true (by omega)
        have o2 : okB rs cu (N - cu) = true := decide_eq_true (by omega)
        have o3 : bytesB rs 0 cu = cutN (joinR rs) 0 cu := if_pos (by omega)
        have o4 : bytesB rs cu (N - cu) = cutN (joinR rs) cu (N - cu) := if_pos (by omega)
        have o5 : cutN (joinR rs) 0 cu ++ cutN (joinR rs) cu (N - cu) = joinR rs := by
          have := cutN_two (joinR rs) 0 cu (N - cu)
          rw [Nat.zero_add] at this
          rw [← this, show cu + (N - cu) = N by omega, ← hN]
          unfold cutN
          simp
        repeat (first | (simp (maxSteps := 1000000) only [↓reduceIte, go_sem, g0, g1, g5, g29, g30, e1, e2, e3]) | (simp (maxSteps := 1000000) (disch := first | omega | assumption) only [BB, g0, g1, g5, g29, g30, e1, e2, e3]) | with_reducible refine Gst.now ?_ | with_reducible refine vawp_draw mixed (by kernel_rfl) ?_ | with_reducible first | refine lwV_out ?_ | refine lwV_out0 ?_ | refine lkC_out ?_ | refine And.intro (by omega) ?_ | fail)
        with_reducible refine call_ok ?_
        refine bytes_u (a := 0) (m := cu) rfl hb (by omega) hnil (by omega) (by omega) fun nl4 hn4 => ?_
        repeat (first | (simp (maxSteps := 1000000) only [↓reduceIte, go_sem, g0, g1, g5, g29, g30, e1, e2, e3]) | (simp (maxSteps := 1000000) (disch := first | omega | assumption) only [BB, g0, g1, g5, g29, g30, e1, e2, e3]) | with_reducible refine Gst.now ?_ | with_reducible refine vawp_draw mixed (by kernel_rfl) ?_ | with_reducible first | refine lwV_out ?_ | refine lwV_out0 ?_ | refine lkC_out ?_ | refine And.intro (by omega) ?_ | fail)
        with_reducible refine call_ok ?_
        refine bytes_u (a := cu) (m := N - cu) rfl hb (by omega) hnil (by omega) (by omega) fun nl5 hn5 => ?_
        rw [o3, o4, o1, o2] at *
        generalize cutN (joinR rs) 0 cu = A at *
        generalize cutN (joinR rs) cu (N - cu) = B at *
        repeat (first | (simp (maxSteps := 1000000) only [↓reduceIte, go_sem, g0, g1, g5, g29, g30, e1, e2, e3]) | (simp (maxSteps := 1000000) (disch := first | omega | assumption) only [BB, g0, g1, g5, g29, g30, e1, e2, e3]) | with_reducible refine Gst.now ?_ | with_reducible refine vawp_draw mixed (by kernel_rfl) ?_ | with_reducible first | refine lwV_out ?_ | refine lwV_out0 ?_ | refine lkC_out ?_ | refine And.intro (by omega) ?_ | fail)
        refine vBuildS_own' bs22 (by decide) ⟨[], rfl, rfl, ?_⟩
        intro q0 hq0
        repeat (first | (simp (maxSteps := 1000000) only [↓reduceIte, go_sem, g0, g1, g5, g29, g30, e1, e2, e3]) | (simp (maxSteps := 1000000) (disch := first | omega | assumption) only [BB, g0, g1, g5, g29, g30, e1, e2, e3]) | with_reducible refine Gst.now ?_ | with_reducible refine vawp_draw mixed (by kernel_rfl) ?_ | with_reducible first | refine lwV_out ?_ | refine lwV_out0 ?_ | refine lkC_out ?_ | refine And.intro (by omega) ?_ | fail)
        refine vawp_loop (k := rs.length) (fun c ρ h2 => ∃ i : Nat, c + i = rs.length ∧ ρ 0 = .isl nl rs.length (rs.flatMap rowC) ∧ ρ 5 = (.sc (.int .i64 ((N : Nat)))) ∧ ρ 11 = .isl nl4 A.length (A.map (iv .u8)) ∧ ρ 12 = (.sc (.bool (true))) ∧ ρ 13 = .isl nl5 B.length (B.map (iv .u8)) ∧ ρ 14 = (.sc (.bool (true))) ∧ ρ 98 = .isl nl rs.length (rs.flatMap rowC) ∧ ρ 99 = (.sc (.int .i64 ((rs.length : Nat)))) ∧ ρ 100 = (.sc (.int .i64 ((i : Nat)))) ∧ ∃ q, h1 q = none ∧ ρ 15 = .own q 0 i ∧ h2 = hset h1 q (.cells 27 false (((rs.take i).map tS).flatMap slotC))) ?_ ?_
        · refine ⟨0, by omega, ?_⟩
          repeat (first | (simp (maxSteps := 1000000) only [↓reduceIte, go_sem, g0, g1, g5, g29, g30, e1, e2, e3]) | (simp (maxSteps := 1000000) (disch := first | omega | assumption) only [BB, g0, g1, g5, g29, g30, e1, e2, e3]) | with_reducible refine Gst.now ?_ | with_reducible refine vawp_draw mixed (by kernel_rfl) ?_ | with_reducible first | refine lwV_out ?_ | refine lwV_out0 ?_ | refine lkC_out ?_ | refine And.intro (by omega) ?_ | fail)
          exact ⟨q0, hq0, rfl, rfl⟩
        · rintro c ρ h2 ⟨i, hci, g0, g5, g11, g12, g13, g14, g98, g99, g100, q, hq1, g15, rfl⟩
          by_cases hi : i < rs.length
          · have e1 := eq_true hi
            have htk : ((rs.take (i + 1)).map tS).flatMap slotC = ((rs.take i).map tS).flatMap slotC ++ slotC (tS (rs.getD i default)) := by rw [take_snocD hi, List.map_append, List.flatMap_append]; simp
            have hll : (((rs.take i).map tS).flatMap slotC).length = i * 2 := by rw [slot_len, List.length_map, List.length_take]; omega
            generalize ((rs.take i).map tS).flatMap slotC = cs at *
            repeat (first | (simp (maxSteps := 1000000) only [↓reduceIte, go_sem, g0, g1, g5, g29, g30, e1, e2, e3, g11, g12, g13, g14, g98, g99, g100, g15]) | (simp (maxSteps := 1000000) (disch := first | omega | assumption) only [BB, g0, g1, g5, g29, g30, e1, e2, e3, g11, g12, g13, g14, g98, g99, g100, g15]) | with_reducible refine Gst.now ?_ | with_reducible refine vawp_draw mixed (by kernel_rfl) ?_ | with_reducible first | refine lwV_out ?_ | refine lwV_out0 ?_ | refine lkC_out ?_ | refine And.intro (by omega) ?_ | fail)
            refine vBuildS_isl' bs22 (by decide) ⟨slotC (tS (rs.getD i default)), rfl, rfl, ?_⟩
            repeat (first | (simp (maxSteps := 1000000) only [↓reduceIte, go_sem, g0, g1, g5, g29, g30, e1, e2, e3, g11, g12, g13, g14, g98, g99, g100, g15]) | (simp (maxSteps := 1000000) (disch := first | omega | assumption) only [BB, g0, g1, g5, g29, g30, e1, e2, e3, g11, g12, g13, g14, g98, g99, g100, g15]) | with_reducible refine Gst.now ?_ | with_reducible refine vawp_draw mixed (by kernel_rfl) ?_ | with_reducible first | refine lwV_out ?_ | refine lwV_out0 ?_ | refine lkC_out ?_ | refine And.intro (by omega) ?_ | fail)
            apply vApp_own_isl ap22 (by simp only [go_sem])
            case hv => first | (simp [hll]; done) | (simp [hll]; omega) | rfl | assumption
            case hj => repeat (first | exact hset_at _ _ _ | assumption | refine (hset_ne _ _ (by first | omega | assumption)).trans ?_ | refine (hdel_ne _ (by first | omega | assumption)).trans ?_ | fail)
            case hl => first | (simp [hll]; done) | (simp [hll]; omega) | rfl | assumption
            case h1 => first | omega | (simp [hll]; omega) | (simp [hll]; done)
            case h2 => first | omega | (simp [hll]; omega) | (simp [hll]; done)
            intro j' hj'
            try simp (disch := first | omega | assumption) only [go_sem, hset_none, hdel_none] at hj'
            try simp (disch := first | omega | assumption) only [hset_none, hdel_none] at hj'
            repeat (first | (simp (maxSteps := 1000000) only [↓reduceIte, go_sem, g0, g1, g5, g29, g30, e1, e2, e3, g11, g12, g13, g14, g98, g99, g100, g15]) | (simp (maxSteps := 1000000) (disch := first | omega | assumption) only [BB, g0, g1, g5, g29, g30, e1, e2, e3, g11, g12, g13, g14, g98, g99, g100, g15]) | with_reducible refine Gst.now ?_ | with_reducible refine vawp_draw mixed (by kernel_rfl) ?_ | with_reducible first | refine lwV_out ?_ | refine lwV_out0 ?_ | refine lkC_out ?_ | refine And.intro (by omega) ?_ | fail)
            refine ⟨c - 1, by omega, i + 1, by omega, rfl, j', by simp [hj'], ⟨rfl, rfl⟩, ?_⟩
            rw [htk]; rfl
          · have e1 := eq_false hi
            have hii : i = rs.length := by omega
            have g15 : ρ 15 = .own q 0 rs.length := by rw [← hii]; exact g15
            rw [show rs.take i = rs by rw [hii, List.take_length]]
            clear hii
            repeat (first | (simp (maxSteps := 1000000) only [↓reduceIte, go_sem, g0, g1, g5, g29, g30, e1, e2, e3, g11, g12, g13, g14, g98, g99, g100, g15]) | (simp (maxSteps := 1000000) (disch := first | omega | assumption) only [BB, g0, g1, g5, g29, g30, e1, e2, e3, g11, g12, g13, g14, g98, g99, g100, g15]) | with_reducible refine vawp_draw mixed (by kernel_rfl) ?_ | with_reducible first | refine lwV_out ?_ | refine lwV_out0 ?_ | refine lkC_out ?_ | refine And.intro (by omega) ?_ | fail)
            refine .frz1 (l := rs.length) 15 q (hset_at _ _ _) (by simp only [go_sem, g15]) (.now ?_)
            rw [hdel_hset hq1]
            have hTl : (rs.map tS).length = rs.length := List.length_map ..
            have hT : ∀ s ∈ rs.map tS, s.row.bs.length ≤ 140737488355328 ∧ (s.row.nl = true → s.row.bs = []) := fun s hs => by
              obtain ⟨r, h3, rfl⟩ := List.mem_map.1 hs
              exact hr r h3
            repeat (first | (simp (maxSteps := 1000000) only [↓reduceIte, go_sem, g0, g1, g5, g29, g30, e1, e2, e3, g11, g12, g13, g14, g98, g99, g100, g15]) | (simp (maxSteps := 1000000) (disch := first | omega | assumption) only [BB, g0, g1, g5, g29, g30, e1, e2, e3, g11, g12, g13, g14, g98, g99, g100, g15]) | with_reducible refine Gst.now ?_ | with_reducible refine vawp_draw mixed (by kernel_rfl) ?_ | with_reducible first | refine lwV_out ?_ | refine lwV_out0 ?_ | refine lkC_out ?_ | refine And.intro (by omega) ?_ | fail)
            refine call_ok (vclone_o (ss := rs.map tS) hTl.symm (by rw [hTl]; omega) hT fun h2 j nl2 qs I => ?_)
            rw [hTl]
            have e2 : isC (h2 j) = true := by rw [I.outer]; rfl
            repeat (first | (simp (maxSteps := 1000000) only [↓reduceIte, go_sem, g0, g1, g5, g29, g30, e1, e2, e3, g11, g12, g13, g14, g98, g99, g100, g15]) | (simp (maxSteps := 1000000) (disch := first | omega | assumption) only [BB, g0, g1, g5, g29, g30, e1, e2, e3, g11, g12, g13, g14, g98, g99, g100, g15]) | with_reducible refine Gst.now ?_ | with_reducible refine vawp_draw mixed (by kernel_rfl) ?_ | with_reducible first | refine lwV_out ?_ | refine lwV_out0 ?_ | refine lkC_out ?_ | refine And.intro (by omega) ?_ | fail)
            refine vawp_loop (k := rs.length) (fun c ρ h3 => ∃ (i : Nat) (ws : List SlotV), c + i = rs.length ∧ ρ 0 = .isl nl rs.length (rs.flatMap rowC) ∧ ρ 5 = (.sc (.int .i64 ((N : Nat)))) ∧ ρ 11 = .isl nl4 A.length (A.map (iv .u8)) ∧ ρ 12 = (.sc (.bool (true))) ∧ ρ 13 = .isl nl5 B.length (B.map (iv .u8)) ∧ ρ 14 = (.sc (.bool (true))) ∧ ρ 15 = .isl false rs.length ((rs.map tS).flatMap slotC) ∧ ρ 18 = .own j 0 rs.length ∧ ρ 113 = (.sc (.int .i64 ((rs.length : Nat)))) ∧ ρ 114 = (.sc (.int .i64 ((i : Nat)))) ∧ W1 rs ws i ∧ OwnT h3 j nl2 ws qs) ?_ ?_
            · refine ⟨0, rs.map tS, by omega, ?_⟩
              repeat (first | (simp (maxSteps := 1000000) only [↓reduceIte, go_sem, g0, g1, g5, g29, g30, e1, e2, e3, g11, g12, g13, g14, g98, g99, g100, g15]) | (simp (maxSteps := 1000000) (disch := first | omega | assumption) only [BB, g0, g1, g5, g29, g30, e1, e2, e3, g11, g12, g13, g14, g98, g99, g100, g15]) | with_reducible refine Gst.now ?_ | with_reducible refine vawp_draw mixed (by kernel_rfl) ?_ | with_reducible first | refine lwV_out ?_ | refine lwV_out0 ?_ | refine lkC_out ?_ | refine And.intro (by omega) ?_ | fail)
              exact ⟨⟨hTl, fun m hm => by rw [if_neg (by omega), List.getD_eq_getElem?_getD, List.getD_eq_getElem?_getD, List.getElem?_map, List.getElem?_eq_getElem hm]; rfl⟩, I⟩
            · rintro c ρ h3 ⟨i, ws, hci, g0, g5, g11, g12, g13, g14, g15, g18, g113, g114, w, I3⟩
              by_cases hi : i < rs.length
              · have e1 := eq_true hi
                obtain rfl : nl2 = false := by
                  cases hh : nl2 with
                  | false => rfl
                  | true => have := I3.nlz hh; subst this; have := w.len; simp at this; omega
                have e3 : blkV h3 j = some (27, clC ws qs) := blkV_iff.2 I3.outer
                have e4 : isC (h3 j) = true := by rw [I3.outer]; rfl
                have w2 := w.inn
                have hat := w2.at_i hi
                have hg5 := clC_get1 ws qs i I3.len (by rw [w.len]; exact hi)
                rw [hat, mixB_0] at hg5
                have hmm := hmemb i hi
                have hr3 := hr _ hmm
                have hr4 := hr8 _ hmm
                cases hn : (rs.getD i default).nl with
                | true =>
                  have hb0 := hr3.2 hn
                  have e6 : (clC ws qs)[i * 2 + 1]? = some (.isl true 0 []) := by rw [hg5]; unfold rowW; rw [if_pos hn]
                  have w3 := w2
                  rw [show 0 = (rs.getD i default).bs.length by rw [hb0]; rfl] at w3
                  have w4 := w3.out
                  repeat (first | (simp (maxSteps := 1000000) only [↓reduceIte, go_sem, g0, g1, g5, g29, g30, e1, e2, e3, g11, g12, g13, g14, g98, g99, g100, g15, g18, g113, g114, e4, e6]) | (simp (maxSteps := 1000000) (disch := first | omega | assumption) only [BB, g0, g1, g5, g29, g30, e1, e2, e3, g11, g12, g13, g14, g98, g99, g100, g15, g18, g113, g114, e4, e6]) | with_reducible refine Gst.now ?_ | with_reducible refine vawp_draw mixed (by kernel_rfl) ?_ | with_reducible first | refine lwV_out ?_ | refine lwV_out0 ?_ | refine lkC_out ?_ | refine And.intro (by omega) ?_ | fail)
                  refine vawp_loop (k := 0) (fun c2 ρ h4 => c2 = 0 ∧ ρ 0 = .isl nl rs.length (rs.flatMap rowC) ∧ ρ 5 = (.sc (.int .i64 ((N : Nat)))) ∧ ρ 11 = .isl nl4 A.length (A.map (iv .u8)) ∧ ρ 12 = (.sc (.bool (true))) ∧ ρ 13 = .isl nl5 B.length (B.map (iv .u8)) ∧ ρ 14 = (.sc (.bool (true))) ∧ ρ 15 = .isl false rs.length ((rs.map tS).flatMap slotC) ∧ ρ 18 = .own j 0 rs.length ∧ ρ 113 = (.sc (.int .i64 ((rs.length : Nat)))) ∧ ρ 114 = (.sc (.int .i64 ((i : Nat)))) ∧ ρ 122 = (.sc (.int .i64 (((0 : Nat) : Int)))) ∧ ρ 123 = (.sc (.int .i64 (((0 : Nat) : Int)))) ∧ h4 = h3) ?_ ?_
                  · refine ⟨rfl, ?_⟩
                    repeat (first | (simp (maxSteps := 1000000) only [↓reduceIte, go_sem, g0, g1, g5, g29, g30, e1, e2, e3, g11, g12, g13, g14, g98, g99, g100, g15, g18, g113, g114, e4, e6]) | (simp (maxSteps := 1000000) (disch := first | omega | assumption) only [BB, g0, g1, g5, g29, g30, e1, e2, e3, g11, g12, g13, g14, g98, g99, g100, g15, g18, g113, g114, e4, e6]) | with_reducible refine Gst.now ?_ | with_reducible refine vawp_draw mixed (by kernel_rfl) ?_ | with_reducible first | refine lwV_out ?_ | refine lwV_out0 ?_ | refine lkC_out ?_ | refine And.intro (by omega) ?_ | fail)
                  · rintro c2 ρ h4 ⟨_, g0, g5, g11, g12, g13, g14, g15, g18, g113, g114, g122, g123, rfl⟩
                    repeat (first | (simp (maxSteps := 1000000) only [↓reduceIte, go_sem, g0, g1, g5, g29, g30, e1, e2, e3, g11, g12, g13, g14, g98, g99, g100, g15, g18, g113, g114, e4, e6, g122, g123]) | (simp (maxSteps := 1000000) (disch := first | omega | assumption) only [BB, g0, g1, g5, g29, g30, e1, e2, e3, g11, g12, g13, g14, g98, g99, g100, g15, g18, g113, g114, e4, e6, g122, g123]) | with_reducible refine Gst.now ?_ | with_reducible refine vawp_draw mixed (by kernel_rfl) ?_ | with_reducible first | refine lwV_out ?_ | refine lwV_out0 ?_ | refine lkC_out ?_ | refine And.intro (by omega) ?_ | fail)
                    exact ⟨c - 1, by omega, i + 1, ws, by omega, rfl, w4, I3⟩
                | false =>
                  have e6 : (clC ws qs)[i * 2 + 1]? = some (.own (qs.getD i 0) 0 (rs.getD i default).bs.length) := by rw [hg5]; unfold rowW; rw [if_neg (by rw [hn]; decide)]
                  obtain ⟨i1, i2⟩ := I3.row i (by rw [w.len]; exact hi) (by rw [hat]; exact hn)
                  have e7 : isC (h3 (qs.getD i 0)) = true := by rw [i1]; rfl
                  repeat (first | (simp (maxSteps := 1000000) only [↓reduceIte, go_sem, g0, g1, g5, g29, g30, e1, e2, e3, g11, g12, g13, g14, g98, g99, g100, g15, g18, g113, g114, e4, e6, e7]) | (simp (maxSteps := 1000000) (disch := first | omega | assumption) only [BB, g0, g1, g5, g29, g30, e1, e2, e3, g11, g12, g13, g14, g98, g99, g100, g15, g18, g113, g114, e4, e6, e7]) | with_reducible refine Gst.now ?_ | with_reducible refine vawp_draw mixed (by kernel_rfl) ?_ | with_reducible first | refine lwV_out ?_ | refine lwV_out0 ?_ | refine lkC_out ?_ | refine And.intro (by omega) ?_ | fail)
                  refine vawp_loop (k := (rs.getD i default).bs.length) (fun c2 ρ h4 => ∃ (k : Nat) (ws : List SlotV), c2 + k = (rs.getD i default).bs.length ∧ ρ 0 = .isl nl rs.length (rs.flatMap rowC) ∧ ρ 5 = (.sc (.int .i64 ((N : Nat)))) ∧ ρ 11 = .isl nl4 A.length (A.map (iv .u8)) ∧ ρ 12 = (.sc (.bool (true))) ∧ ρ 13 = .isl nl5 B.length (B.map (iv .u8)) ∧ ρ 14 = (.sc (.bool (true))) ∧ ρ 15 = .isl false rs.length ((rs.map tS).flatMap slotC) ∧ ρ 18 = .own j 0 rs.length ∧ ρ 19 = (.sc (.int .i64 ((i : Nat)))) ∧ ρ 113 = (.sc (.int .i64 ((rs.length : Nat)))) ∧ ρ 114 = (.sc (.int .i64 ((i : Nat)))) ∧ ρ 122 = (.sc (.int .i64 (((rs.getD i default).bs.length : Nat)))) ∧ ρ 123 = (.sc (.int .i64 ((k : Nat)))) ∧ W2 rs ws i k ∧ OwnT h4 j false ws qs) ?_ ?_
                  · refine ⟨0, ws, by omega, ?_⟩
                    repeat (first | (simp (maxSteps := 1000000) only [↓reduceIte, go_sem, g0, g1, g5, g29, g30, e1, e2, e3, g11, g12, g13, g14, g98, g99, g100, g15, g18, g113, g114, e4, e6, e7]) | (simp (maxSteps := 1000000) (disch := first | omega | assumption) only [BB, g0, g1, g5, g29, g30, e1, e2, e3, g11, g12, g13, g14, g98, g99, g100, g15, g18, g113, g114, e4, e6, e7]) | with_reducible refine Gst.now ?_ | with_reducible refine vawp_draw mixed (by kernel_rfl) ?_ | with_reducible first | refine lwV_out ?_ | refine lwV_out0 ?_ | refine lkC_out ?_ | refine And.intro (by omega) ?_ | fail)
                    first | exact ⟨w2, I3⟩ | exact I3
                  · rintro c2 ρ h4 ⟨k, ws, hck, g0, g5, g11, g12, g13, g14, g15, g18, g19, g113, g114, g122, g123, w3, I4⟩
                    by_cases hk : k < (rs.getD i default).bs.length
                    · have e8 := eq_true hk
                      have hat := w3.at_i hi
                      have hnw : (ws.getD i default).row.nl = false := by rw [hat]; exact hn
                      have hiw : i < ws.length := by rw [w3.len]; exact hi
                      have hbw : (ws.getD i default).row.bs = mixB (rs.getD i default).bs k := by rw [hat]
                      have e3 : blkV h4 j = some (27, clC ws qs) := blkV_iff.2 I4.outer
                      have e4 : isC (h4 j) = true := by rw [I4.outer]; rfl
                      have e6 : (clC ws qs)[i * 2 + 1]? = some (.own (qs.getD i 0) 0 (rs.getD i default).bs.length) := by
                        rw [clC_get1 ws qs i I4.len hiw]; unfold rowW; rw [if_neg (by rw [hnw]; decide), hbw, mixB_len]
                      obtain ⟨i1, i2⟩ := I4.row i hiw hnw
                      rw [hbw] at i1
                      have e7 : isC (h4 (qs.getD i 0)) = true := by rw [i1]; rfl
                      have e9 : blkV h4 (qs.getD i 0) = some (5, (mixB (rs.getD i default).bs k).map (iv .u8)) := blkV_iff.2 i1
                      have I5 := I4.upd (bs' := mixB (rs.getD i default).bs (k + 1)) hiw hnw (by rw [hbw, mixB_len, mixB_len])
                      have w5 := w3.step hi hn
                      have e10 := mixB_get hk
                      have e11 := mixB_set hk
                      have e12 := mixB_len (rs.getD i default).bs k
                      have e13 : bits .xor .u8 (((rs.getD i default).bs.getD k 0 : Nat) : Int) 1 = ((x1 ((rs.getD i default).bs.getD k 0) : Nat) : Int) := u8_xor_nat _ 1 (by
                        rw [List.getD_eq_getElem?_getD, List.getElem?_eq_getElem hk]; exact hr4 _ (List.getElem_mem hk)) (by decide)
                      generalize qs.getD i 0 = q1 at *
                      repeat (first | (simp (maxSteps := 1000000) only [↓reduceIte, go_sem, g0, g1, g5, g29, g30, e1, e2, e3, g11, g12, g13, g14, g98, g99, g100, g15, g18, g113, g114, e4, e6, e7, g19, g122, g123, e8, e9, e10, e11, e12, e13]) | (simp (maxSteps := 1000000) (disch := first | omega | assumption) only [BB, g0, g1, g5, g29, g30, e1, e2, e3, g11, g12, g13, g14, g98, g99, g100, g15, g18, g113, g114, e4, e6, e7, g19, g122, g123, e8, e9, e10, e11, e12, e13]) | with_reducible refine Gst.now ?_ | with_reducible refine vawp_draw mixed (by kernel_rfl) ?_ | with_reducible first | refine lwV_out ?_ | refine lwV_out0 ?_ | refine lkC_out ?_ | refine And.intro (by omega) ?_ | fail)
                      exact ⟨c2 - 1, by omega, k + 1, _, by omega, rfl, w5, I5⟩
                    · have e8 := eq_false hk
                      have hkk : k = (rs.getD i default).bs.length := by omega
                      rw [hkk] at w3
                      have w4 := w3.out
                      repeat (first | (simp (maxSteps := 1000000) only [↓reduceIte, go_sem, g0, g1, g5, g29, g30, e1, e2, e3, g11, g12, g13, g14, g98, g99, g100, g15, g18, g113, g114, e4, e6, e7, g19, g122, g123, e8]) | (simp (maxSteps := 1000000) (disch := first | omega | assumption) only [BB, g0, g1, g5, g29, g30, e1, e2, e3, g11, g12, g13, g14, g98, g99, g100, g15, g18, g113, g114, e4, e6, e7, g19, g122, g123, e8]) | with_reducible refine Gst.now ?_ | with_reducible refine vawp_draw mixed (by kernel_rfl) ?_ | with_reducible first | refine lwV_out ?_ | refine lwV_out0 ?_ | refine lkC_out ?_ | refine And.intro (by omega) ?_ | fail)
                      exact ⟨c - 1, by omega, i + 1, ws, by omega, rfl, w4, I4⟩
              · have e1 := eq_false hi
                have hii : i = rs.length := by omega
                rw [hii] at w
                have hwl := w.len
                have hzz : ∀ s ∈ ws, s.row.nl = true → s.row.bs = [] := fun s hs hn => by
                  obtain ⟨m, hm⟩ := List.getElem?_of_mem hs
                  have hlt := (List.getElem?_eq_some_iff.1 hm).1
                  have := w.at_ m (by omega)
                  rw [if_pos (by omega), List.getD_eq_getElem?_getD, hm] at this
                  have h5 : s = xorS (tS (rs.getD m default)) := this
                  rw [h5] at hn ⊢
                  show (rs.getD m default).bs.map x1 = []
                  rw [(hr _ (hmemb m (by omega))).2 hn]; rfl
                have hwb : ∀ s ∈ ws, s.row.bs.length ≤ 140737488355328 := fun s hs => by
                  obtain ⟨m, hm⟩ := List.getElem?_of_mem hs
                  have hlt := (List.getElem?_eq_some_iff.1 hm).1
                  have := w.at_ m (by omega)
                  rw [if_pos (by omega), List.getD_eq_getElem?_getD, hm] at this
                  have h5 : s = xorS (tS (rs.getD m default)) := this
                  rw [h5]
                  show ((rs.getD m default).bs.map x1).length ≤ _
                  rw [List.length_map]
                  exact (hr _ (hmemb m (by omega))).1
                have hlend := I3.bz hzz
                rw [hwl] at hlend
                repeat (first | (simp (maxSteps := 1000000) only [↓reduceIte, go_sem, g0, g1, g5, g29, g30, e1, e2, e3, g11, g12, g13, g14, g98, g99, g100, g15, g18, g113, g114]) | (simp (maxSteps := 1000000) (disch := first | omega | assumption) only [BB, g0, g1, g5, g29, g30, e1, e2, e3, g11, g12, g13, g14, g98, g99, g100, g15, g18, g113, g114]) | with_reducible refine Gst.now ?_ | with_reducible refine vawp_draw mixed (by kernel_rfl) ?_ | with_reducible first | refine lwV_out ?_ | refine lwV_out0 ?_ | refine lkC_out ?_ | refine And.intro (by omega) ?_ | fail)
                refine vBuildS_i bs24 ?_ ?_ ?_ ?_ ?_
                rfl
                rfl
                rfl
                rfl
                repeat (first | (simp (maxSteps := 1000000) only [↓reduceIte, go_sem]) | (simp (maxSteps := 1000000) (disch := first | omega | assumption) only [BB]) | with_reducible refine Gst.now ?_ | with_reducible refine vawp_draw mixed (by kernel_rfl) ?_ | with_reducible first | refine lwV_out ?_ | refine lwV_out0 ?_ | refine lkC_out ?_ | refine And.intro (by omega) ?_ | fail)
                with_reducible refine call_ok ?_
                refine join_u (rs := [⟨nl4, A⟩, ⟨nl5, B⟩]) (d := joinR rs) (by rw [← o5]; simp [joinR]) rfl (by simp) (by omega) ?_
                repeat (first | (simp (maxSteps := 1000000) only [↓reduceIte, go_sem, g0, g1, g5, g29, g30, e1, e2, e3, g11, g12, g13, g14, g98, g99, g100, g15, g18, g113, g114]) | (simp (maxSteps := 1000000) (disch := first | omega | assumption) only [BB, g0, g1, g5, g29, g30, e1, e2, e3, g11, g12, g13, g14, g98, g99, g100, g15, g18, g113, g114]) | with_reducible refine Gst.now ?_ | with_reducible refine vawp_draw mixed (by kernel_rfl) ?_ | with_reducible first | refine lwV_out ?_ | refine lwV_out0 ?_ | refine lkC_out ?_ | refine And.intro (by omega) ?_ | fail)
                with_reducible refine call_ok ?_
                refine join_v rfl hb (by omega) ?_
                repeat (first | (simp (maxSteps := 1000000) only [↓reduceIte, go_sem, g0, g1, g5, g29, g30, e1, e2, e3, g11, g12, g13, g14, g98, g99, g100, g15, g18, g113, g114]) | (simp (maxSteps := 1000000) (disch := first | omega | assumption) only [BB, g0, g1, g5, g29, g30, e1, e2, e3, g11, g12, g13, g14, g98, g99, g100, g15, g18, g113, g114]) | with_reducible refine Gst.now ?_ | with_reducible refine vawp_draw mixed (by kernel_rfl) ?_ | with_reducible first | refine lwV_out ?_ | refine lwV_out0 ?_ | refine lkC_out ?_ | refine And.intro (by omega) ?_ | fail)
                with_reducible refine call_ok ?_
                refine same_t (xs := joinR rs) (ys := joinR rs) rfl rfl rfl (by omega) ?_
                by_cases hN0 : N = 0
                · have e2 := eq_true hN0
                  have e3 : (N == 0) = true := by simpa using hN0
                  repeat (first | (simp (maxSteps := 1000000) only [↓reduceIte, go_sem, g0, g1, g5, g29, g30, e1, e2, e3, g11, g12, g13, g14, g98, g99, g100, g15, g18, g113, g114]) | (simp (maxSteps := 1000000) (disch := first | omega | assumption) only [BB, g0, g1, g5, g29, g30, e1, e2, e3, g11, g12, g13, g14, g98, g99, g100, g15, g18, g113, g114]) | with_reducible refine Gst.now ?_ | with_reducible refine vawp_draw mixed (by kernel_rfl) ?_ | with_reducible first | refine lwV_out ?_ | refine lwV_out0 ?_ | refine lkC_out ?_ | refine And.intro (by omega) ?_ | fail)
                  refine hq _ _ ?_
                  repeat (first | (simp (maxSteps := 1000000) only [↓reduceIte, go_sem, g0, g1, g5, g29, g30, e1, e2, e3, g11, g12, g13, g14, g98, g99, g100, g15, g18, g113, g114]) | (simp (maxSteps := 1000000) (disch := first | omega | assumption) only [BB, g0, g1, g5, g29, g30, e1, e2, e3, g11, g12, g13, g14, g98, g99, g100, g15, g18, g113, g114]) | with_reducible refine Gst.now ?_ | with_reducible refine vawp_draw mixed (by kernel_rfl) ?_ | with_reducible first | refine lwV_out ?_ | refine lwV_out0 ?_ | refine lkC_out ?_ | refine And.intro (by omega) ?_ | fail)
                  exact .now (hK _)
                · have e2 := eq_false hN0
                  have e3 : (N == 0) = false := by simpa using hN0
                  obtain ⟨m, hm1, hm2⟩ := joinR_ne (rs := rs) (by omega)
                  have hsf : sameT ws (rs.map tS) = false := by
                    refine sameT_f _ _ m (by omega) (by omega) ?_
                    have h6 := w.at_ m hm1
                    rw [if_pos hm1] at h6
                    have h7 : (rs.map tS).getD m default = tS (rs.getD m default) := by
                      rw [List.getD_eq_getElem?_getD, List.getD_eq_getElem?_getD, List.getElem?_map, List.getElem?_eq_getElem hm1]; rfl
                    rw [h6, h7]
                    show (true == true && (!true || decide ((rs.getD m default).bs.map x1 = (rs.getD m default).bs))) = false
                    rw [decide_eq_false (map_x1_ne hm2)]
                    rfl
                  repeat (first | (simp (maxSteps := 1000000) only [↓reduceIte, go_sem, g0, g1, g5, g29, g30, e1, e2, e3, g11, g12, g13, g14, g98, g99, g100, g15, g18, g113, g114]) | (simp (maxSteps := 1000000) (disch := first | omega | assumption) only [BB, g0, g1, g5, g29, g30, e1, e2, e3, g11, g12, g13, g14, g98, g99, g100, g15, g18, g113, g114]) | with_reducible refine Gst.now ?_ | with_reducible refine vawp_draw mixed (by kernel_rfl) ?_ | with_reducible first | refine lwV_out ?_ | refine lwV_out0 ?_ | refine lkC_out ?_ | refine And.intro (by omega) ?_ | fail)
                  refine call_lend [.isl nl2 rs.length (ws.flatMap slotC), .isl false rs.length ((rs.map tS).flatMap slotC)] ⟨hlend, .refl _, trivial⟩ (volSame_v hwl.symm hTl.symm (by omega) (by omega) hwb (fun s hs => (hT s hs).1) ?_)
                  rw [hsf]
                  refine ⟨rfl, ?_⟩
                  repeat (first | (simp (maxSteps := 1000000) only [↓reduceIte, go_sem, g0, g1, g5, g29, g30, e1, e2, e3, g11, g12, g13, g14, g98, g99, g100, g15, g18, g113, g114]) | (simp (maxSteps := 1000000) (disch := first | omega | assumption) only [BB, g0, g1, g5, g29, g30, e1, e2, e3, g11, g12, g13, g14, g98, g99, g100, g15, g18, g113, g114]) | with_reducible refine Gst.now ?_ | with_reducible refine vawp_draw mixed (by kernel_rfl) ?_ | with_reducible first | refine lwV_out ?_ | refine lwV_out0 ?_ | refine lkC_out ?_ | refine And.intro (by omega) ?_ | fail)
                  refine hq _ _ ?_
                  repeat (first | (simp (maxSteps := 1000000) only [↓reduceIte, go_sem, g0, g1, g5, g29, g30, e1, e2, e3, g11, g12, g13, g14, g98, g99, g100, g15, g18, g113, g114]) | (simp (maxSteps := 1000000) (disch := first | omega | assumption) only [BB, g0, g1, g5, g29, g30, e1, e2, e3, g11, g12, g13, g14, g98, g99, g100, g15, g18, g113, g114]) | with_reducible refine Gst.now ?_ | with_reducible refine vawp_draw mixed (by kernel_rfl) ?_ | with_reducible first | refine lwV_out ?_ | refine lwV_out0 ?_ | refine lkC_out ?_ | refine And.intro (by omega) ?_ | fail)
                  exact .now (hK _)
end
end Go.Proofs.Ytgdhfabiljgdpaa.VBackB
