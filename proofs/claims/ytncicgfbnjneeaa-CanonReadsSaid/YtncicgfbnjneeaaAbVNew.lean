/- a table of codes, over the machine of values: New. -/
import Derived.Test.YtncicgfbnjneeaaProg
import Derived.Test.YtncicgfbnjneeaaAbV16
import Derived.Test.YtncicgfbnjneeaaAbFacts
import Derived.Test.YtncicgfbnjneeaaAbBitsM
import Derived.Test.YtncicgfbnjneeaaAbVBits
import Derived.Test.YtncicgfbnjneeaaAbVBitsT
import Derived.Test.YtncicgfbnjneeaaAbVLen
import Derived.Test.YtncicgfbnjneeaaAbVCheck
import Derived.Test.YtncicgfbnjneeaaAbVCodes
import Derived.Test.YtncicgfbnjneeaaAbVRCodes
import Derived.KernelRfl
import Derived.Laws.BitsAllLaws
set_option linter.unusedVariables false
set_option linter.unusedSimpArgs false
set_option maxRecDepth 100000
set_option maxHeartbeats 4000000
namespace Go.Proofs.Ytncicgfbnjneeaa.VNew
open Go.RowKit Go.Proofs.AbM Go.Proofs.Ytncicgfbnjneeaa.Facts Go.Proofs.Ytncicgfbnjneeaa.BitsM Go.Proofs.Ytncicgfbnjneeaa.VBits Go.Proofs.Ytncicgfbnjneeaa.VBitsT Go.Proofs.Ytncicgfbnjneeaa.VLen Go.Proofs.Ytncicgfbnjneeaa.VCheck Go.Proofs.Ytncicgfbnjneeaa.VCodes Go.Proofs.Ytncicgfbnjneeaa.VRCodes
attribute [local go_sem] vawp_skip_eq vawp_seq_eq vawp_region_eq vawp_cond_g vawp_block_eq vawp_exit_eq vawp_ret_eq thenV_ret thenV_exit thenV_normal inBlockV_normal inBlockV_ret inBlockV_exit resKV_nil resKV_tmp resKV_cell oneV_one oneV_nil oneV_more initV_nil initV_cons updV_at evv_tmp evv_func evv_global evv_int evv_bool evv_str evv_snil evv_pnil evv_agg ofV3_int ofV3_bool ofV3_str ofV3_snil ofV3_pnil vok_tmp vok_func vok_global vok_int vok_bool vok_str vok_snil vok_pnil vok_agg cloV3_int cloV3_bool cloV3_str cloV3_snil cloV3_pnil voks_nil voks_cons scV_int scV_bool scV_str isBlV_b isBV_t isBV_f lwV_none lwV_sc lwV_agg lwV_tup lwV_isl lwV_own lwV_op lwV_ip lwV_fn lwV_junk vops_nil vops_n vops_s gsN_eq vop dstOk_some dstOk_none pkV_b blkV_set eRead_f eRead_t vLoad_op vLoad_ip vStore_op cells_sc cells_isl cells_own cells_op cells_ip cells_fn cells_agg parts_sc parts_isl parts_own parts_op parts_ip parts_fn parts_agg one_sc one_isl one_own one_op one_ip one_fn vField_op vField_ip ePart_f ePart_t vFieldV_agg vIx_isl vIx_own vIx_op vIx_ip vIxV_agg vIxV_str vLen_str vLen_isl vLen_own vLen_agg bndE_none bndE_int vSlice_isl vSlice_str vBin_add vBin_sub vBin_mul vBin_quo vBin_rem vBin_and vBin_or vBin_xor vBin_andNot vBin_eql vBin_neq vBin_lss vBin_leq vBin_gtr vBin_geq vBin_shr_i8 vBin_shl_i8 vBin_shr_i16 vBin_shl_i16 vBin_shr_i32 vBin_shl_i32 vBin_shr_i64 vBin_shl_i64 vBin_shr_u8 vBin_shl_u8 vBin_shr_u16 vBin_shl_u16 vBin_shr_u32 vBin_shl_u32 vBin_shr_u64 vBin_shl_u64 vBin_seq vBin_sne vBin_isln vBin_opn vBin_ipn ex_sc ex_sc2 ex_sc3 ex_tup calleeV wSc_pb wSc_pi wSc_not wSc_neg wSc_com wSc_min2 wSc_max2 vfold_nil vfold_one vfold_cons vfill_nil vfill_e eFill_s vBuild vBox vAlloc setV_map setV_zs setV_zn setV_s hset_hset eConv_ss vConv_e iv_eq ivI_eq ex_get ex_getI set_iv set_ivI okNil isNilV isSlV hdel_at hset_at List.map_toArray List.map_cons List.map_nil List.nil_append List.cons_append List.append_nil List.toList_toArray List.getElem?_toArray List.getElem_toArray List.getElem_cons_zero List.getElem_cons_succ List.getElem?_cons_zero List.getElem?_cons_succ List.set_cons_zero List.set_cons_succ List.set_set List.length_cons List.length_nil List.length_set List.length_map List.all_cons List.all_nil List.drop_zero List.drop_succ_cons List.take_succ_cons List.take_zero List.flatMap_cons Bool.and_eq_true true_and and_true if_true if_false ite_true ite_false forall_eq' forall_eq exists_eq_left exists_eq_left' exists_eq' Value.bool.injEq Value.int.injEq Value.string.injEq Value.pointer.injEq Option.some.injEq AV.sc.injEq AV.op.injEq AV.ip.injEq AV.own.injEq AV.agg.injEq VB.cells.injEq VB.iter.injEq Prod.mk.injEq decide_eq_true_eq decide_eq_false_iff_not Nat.reduceEqDiff Nat.reduceLT Nat.reduceLeDiff Nat.reduceSub Nat.reduceBEq reduceIte Int.reduceLE Int.reduceLT Int.reduceToNat Int.reduceNeg Int.reduceEq Int.reduceNe Int.cast_ofNat_Int Nat.reduceMul Nat.reduceAdd Nat.reduceDiv Nat.reduceMod Nat.reducePow Int.reduceSub Int.reduceAdd Int.reduceMul Int.reducePow Option.isSome_some Option.isSome_none Option.bind_some Option.map_some Option.map_none Option.toList_some Option.toList_none true_or or_true or_false false_or Bool.not_true Bool.not_false Bool.not_eq_true Bool.false_eq_true Bool.not_not false_implies true_implies implies_true Nat.zero_add Nat.add_zero Nat.mul_one Bool.not_eq_true' Bool.true_eq_false Bool.and_true Bool.true_and Bool.and_false Bool.false_and Bool.or_true Bool.true_or Bool.or_false Bool.false_or Option.isNone_some Option.isNone_none Int.reduceBEq Int.reduceBNe beq_self_eq_true bne_self_eq_false beq_iff_eq not_false_eq_true not_true_eq_false Decidable.not_not bne_iff_ne ne_eq Int.toNat_natCast gt_lt ge_le c_add c_mul c_sub c_addn c_nadd c_muln c_nmul c_subn c_nsub c_divn c_modn c_div c_mod c_tdivn c_tmodn c_tdiv c_tmod c_pow c_nn c_beq c_beqn c_bne c_bnen wr64 wr32 wru64 wru32 wru16 wru8 c_if c_if1 c_if2 c_lt c_le c_eq c_ltn c_len c_nlt c_nle c_eqn m_drop m_take Nat.add_sub_cancel_left Nat.add_sub_cancel Int.reduceTMod Int.reduceTDiv Int.reduceMod Int.reduceDiv isC_some hset_ne hdel_ne hdel_hset hdel_hset_ne blkV_nset blkV_ndel hset_hdel gV_t gV_f isGdV_b isGdV_u isBV_u isGdV_g isBV_gt isBV_gf decide_true decide_false Bool.or_eq_false_iff eq_self Nat.lt_irrefl Int.lt_irrefl Nat.le_refl Int.le_refl
attribute [local go_sem high] vops_pk vops_mv vops_as vops_smv pk_and pk_or pk_gand pk_gor pk_orn pk_gorn
attribute [local go_sem] ag3 sz3 zc3 ik3 ag4 sz4 zc4 ag5 sz5 zc5 ik5 ag22 sz22 el22 zc22 is22 ag24 sz24 el24 zc24 is24 ag25 sz25 zc25 ik25 ag30 sz30 zc30 ik30 ag31 sz31 zc31 pt31 ag38 sz38 el38 zc38 is38 ag39 sz39 zc39 pt39 ag49 sz49 zc49 bo49 ag54 sz54 ea54 an54 zc54 bo54 ag58 sz58 ea58 an58 zc58 bo58 ag60 sz60 zc60 bo60 ag62 sz62 zc62 bo62 ag68 sz68 zc68 pt68 ag72 sz72 zc72 ag73 sz73 ea73 an73 zc73 bo73 of49_0 fd49_0 of49_1 fd49_1 of60_0 fd60_0 of60_1 fd60_1 of60_2 fd60_2 of60_3 fd60_3 of60_4 fd60_4 of62_0 fd62_0 of62_1 fd62_1 eqb neb
section
variable {n : Nat} {h : VH} {K : AV → VH → Prop}
attribute [local go_sem] Nat.zero_le
theorem clone_i {nl : Bool} {l : Nat} {xs : List Nat} (hl : l = xs.length) (hnl : nl = true → xs = []) (hb : xs.length ≤ 1000) (hK : K (.isl nl l (xs.map (iv .i64))) h) : VC Try.prog GL (n + 1) 25 [.isl nl l (xs.map (iv .i64))] h K := by
  refine VC_go Try.func25 rfl (by decide) Try.ntmps25 Try.results25 rfl fun Q hq hn => ?_
  subst hl
  repeat (first | (simp (maxSteps := 1000000) only [↓reduceIte, go_sem]) | (simp (maxSteps := 1000000) (disch := first | omega | assumption) only [BB]) | with_reducible refine Gst.now ?_ | with_reducible refine vawp_draw mixed (by kernel_rfl) ?_ | with_reducible first | refine lwV_out ?_ | refine lwV_out0 ?_ | refine lkC_out ?_ | refine And.intro (by omega) ?_ | fail)
  cases nl with
  | true =>
    have := hnl rfl
    subst this
    repeat (first | (simp (maxSteps := 1000000) only [↓reduceIte, go_sem]) | (simp (maxSteps := 1000000) (disch := first | omega | assumption) only [BB]) | with_reducible refine Gst.now ?_ | with_reducible refine vawp_draw mixed (by kernel_rfl) ?_ | with_reducible first | refine lwV_out ?_ | refine lwV_out0 ?_ | refine lkC_out ?_ | refine And.intro (by omega) ?_ | fail)
    refine hq _ _ ?_
    repeat (first | (simp (maxSteps := 1000000) only [↓reduceIte, go_sem]) | (simp (maxSteps := 1000000) (disch := first | omega | assumption) only [BB]) | with_reducible refine Gst.now ?_ | with_reducible refine vawp_draw mixed (by kernel_rfl) ?_ | with_reducible first | refine lwV_out ?_ | refine lwV_out0 ?_ | refine lkC_out ?_ | refine And.intro (by omega) ?_ | fail)
    exact .now hK
  | false =>
    repeat (first | (simp (maxSteps := 1000000) only [↓reduceIte, go_sem]) | (simp (maxSteps := 1000000) (disch := first | omega | assumption) only [BB]) | with_reducible refine Gst.now ?_ | with_reducible refine vawp_draw mixed (by kernel_rfl) ?_ | with_reducible first | refine lwV_out ?_ | refine lwV_out0 ?_ | refine lkC_out ?_ | refine And.intro (by omega) ?_ | fail)
    refine vBuildS_o bs22 ?_ ?_ ?_ ?_ ?_
    rfl
    rfl
    rfl
    rfl
    intro j hj
    repeat (first | (simp (maxSteps := 1000000) only [↓reduceIte, go_sem]) | (simp (maxSteps := 1000000) (disch := first | omega | assumption) only [BB]) | with_reducible refine Gst.now ?_ | with_reducible refine vawp_draw mixed (by kernel_rfl) ?_ | with_reducible first | refine lwV_out ?_ | refine lwV_out0 ?_ | refine lkC_out ?_ | refine And.intro (by omega) ?_ | fail)
    apply vApp_own_isl ap22 (by simp only [go_sem])
    case hv => first | (simp []; done) | (simp []; omega) | rfl | assumption
    case hj => repeat (first | exact hset_at _ _ _ | assumption | refine (hset_ne _ _ (by first | omega | assumption)).trans ?_ | refine (hdel_ne _ (by first | omega | assumption)).trans ?_ | fail)
    case hl => first | (simp []; done) | (simp []; omega) | rfl | assumption
    case h1 => first | omega | (simp []; omega) | (simp []; done)
    case h2 => first | omega | (simp []; omega) | (simp []; done)
    intro j' hj'
    try simp (disch := first | omega | assumption) only [go_sem, hset_none, hdel_none] at hj'
    try simp (disch := first | omega | assumption) only [hset_none, hdel_none] at hj'
    repeat (first | (simp (maxSteps := 1000000) only [↓reduceIte, go_sem]) | (simp (maxSteps := 1000000) (disch := first | omega | assumption) only [BB]) | with_reducible refine Gst.now ?_ | with_reducible refine vawp_draw mixed (by kernel_rfl) ?_ | with_reducible first | refine lwV_out ?_ | refine lwV_out0 ?_ | refine lkC_out ?_ | refine And.intro (by omega) ?_ | fail)
    refine hq _ _ ?_
    repeat (first | (simp (maxSteps := 1000000) only [↓reduceIte, go_sem]) | (simp (maxSteps := 1000000) (disch := first | omega | assumption) only [BB]) | with_reducible refine Gst.now ?_ | with_reducible refine vawp_draw mixed (by kernel_rfl) ?_ | with_reducible first | refine lwV_out ?_ | refine lwV_out0 ?_ | refine lkC_out ?_ | refine And.intro (by omega) ?_ | fail)
    refine .own1 (hset_at _ _ _) ?_
    repeat (first | (simp (maxSteps := 1000000) only [↓reduceIte, go_sem]) | (simp (maxSteps := 1000000) (disch := first | omega | assumption) only [BB]) | with_reducible refine Gst.now ?_ | with_reducible refine vawp_draw mixed (by kernel_rfl) ?_ | with_reducible first | refine lwV_out ?_ | refine lwV_out0 ?_ | refine lkC_out ?_ | refine And.intro (by omega) ?_ | fail)
    exact hK
/-- The symbols of a length, up to a place; the longest length. -/
def symL (ls : List Nat) (i l : Nat) : List Nat := (List.range i).filter fun s => decide (0 < l ∧ ls.getD s 0 = l)
def longL (ls : List Nat) : Nat → Nat
  | 0 => 0
  | i + 1 => if longL ls i < ls.getD i 0 then ls.getD i 0 else longL ls i
theorem symL_next (ls : List Nat) (i l : Nat) : symL ls (i + 1) l = symL ls i l ++ if 0 < l ∧ ls.getD i 0 = l then [i] else [] := by
  unfold symL
  rw [List.range_succ, List.filter_append]
  congr 1
  by_cases h : 0 < l ∧ ls.getD i 0 = l
  · rw [if_pos h, List.filter_cons, if_pos (by simpa using h)]; rfl
  · rw [if_neg h, List.filter_cons, if_neg (by simpa using h)]; rfl
theorem symL_len (ls : List Nat) (i l : Nat) : (symL ls i l).length ≤ i := Nat.le_trans (List.length_filter_le _ _) (by simp)
def symW (q : Nat) (r : List Nat) : AV := if r = [] then .isl true 0 [] else .own q 0 r.length
def symI (r : List Nat) : AV := .isl (decide (r = [])) r.length (r.map (iv .i64))
/-- The cells of a table. -/
def tabA (pre : List AV) (W : Nat → AV) (lg : Nat) : List AV := pre ++ ((List.range 16).map W ++ [(.sc (.int .i64 (lg)))])
section
variable {pre : List AV} {W : Nat → AV} {lg : Nat}
theorem tabA_len (hp : pre.length = 18) : (tabA pre W lg).length = 35 := by simp [tabA, hp]
theorem tabA_sym (hp : pre.length = 18) {l : Nat} (hl : l < 16) : (tabA pre W lg)[18 + l]? = some (W l) := by
  unfold tabA
  rw [List.getElem?_append_right (by omega), hp, Nat.add_sub_cancel_left, List.getElem?_append_left (by simpa using hl), List.getElem?_map, List.getElem?_range hl]; rfl
theorem tabA_lg (hp : pre.length = 18) : (tabA pre W lg)[34]? = some (.sc (.int .i64 (lg))) := by
  unfold tabA
  rw [List.getElem?_append_right (by omega), hp, List.getElem?_append_right (by simp)]
  simp
theorem tabA_pre {i : Nat} (hi : i < pre.length) : (tabA pre W lg)[i]? = pre[i]? := List.getElem?_append_left hi
theorem tabA_set (hp : pre.length = 18) {l : Nat} (hl : l < 16) (v : AV) : (tabA pre W lg).set (18 + l) v = tabA pre (fun m => if m = l then v else W m) lg := by
  unfold tabA
  rw [List.set_append_right _ _ (by omega), hp, Nat.add_sub_cancel_left, List.set_append_left _ _ (by simpa using hl)]
  congr 2
  apply List.ext_getElem
  · simp
  · intro i h1 h2
    simp only [List.length_set, List.length_map, List.length_range] at h1
    rw [List.getElem_set]
    simp only [List.getElem_map, List.getElem_range]
    by_cases hil : l = i
    · rw [if_pos hil, if_pos hil.symm]
    · rw [if_neg hil, if_neg (Ne.symm hil)]
theorem tabA_setlg (hp : pre.length = 18) (v : Nat) : (tabA pre W lg).set 34 (.sc (.int .i64 ((v : Nat)))) = tabA pre W v := by
  unfold tabA
  rw [List.set_append_right _ _ (by omega), hp, List.set_append_right _ _ (by simp)]
  simp
end
structure SymT (h0 h1 : VH) (j : Nat) (pre : List AV) (R : Nat → List Nat) (Q : Nat → Nat) (lg : Nat) : Prop where
  outer : h1 j = some (.cells 60 false (tabA pre (fun l => symW (Q l) (R l)) lg))
  row : ∀ l, l < 16 → R l ≠ [] → h1 (Q l) = some (.cells 3 false ((R l).map (iv .i64))) ∧ Q l ≠ j ∧ h0 (Q l) = none
  dif : ∀ a b, a < 16 → b < 16 → a ≠ b → R a ≠ [] → R b ≠ [] → Q a ≠ Q b
  rest : ∀ x, x ≠ j → (∀ l, l < 16 → R l ≠ [] → x ≠ Q l) → h1 x = h0 x
  new : h0 j = none
theorem SymT.lg {h0 h1 : VH} {j : Nat} {pre : List AV} {R : Nat → List Nat} {Q : Nat → Nat} {lg lg' : Nat} (I : SymT h0 h1 j pre R Q lg) : SymT h0 (hset h1 j (.cells 60 false (tabA pre (fun l => symW (Q l) (R l)) lg'))) j pre R Q lg' := by
  refine ⟨hset_at _ _ _, fun l hl hr => ?_, I.dif, fun x hx hq => ?_, I.new⟩
  · obtain ⟨r1, r2, r3⟩ := I.row l hl hr
    exact ⟨(hset_ne _ _ r2).trans r1, r2, r3⟩
  · exact (hset_ne _ _ hx).trans (I.rest x hx hq)
/-- a symbol more -/
theorem SymT.app {h0 h1 h2 : VH} {j q s l : Nat} {pre : List AV} {R : Nat → List Nat} {Q : Nat → Nat} {lg : Nat} (hp : pre.length = 18) (I : SymT h0 h1 j pre R Q lg) (hl : l < 16) (h12 : (R l = [] ∧ h1 q = none ∧ h2 = hset h1 q (.cells 3 false ((R l ++ [s]).map (iv .i64)))) ∨ (R l ≠ [] ∧ hdel h1 (Q l) q = none ∧ h2 = hset (hdel h1 (Q l)) q (.cells 3 false ((R l ++ [s]).map (iv .i64))))) : h2 j = some (.cells 60 false (tabA pre (fun l => symW (Q l) (R l)) lg)) ∧ SymT h0 (hset h2 j (.cells 60 false ((tabA pre (fun l => symW (Q l) (R l)) lg).set (18 + l) (.own q 0 ((R l).length + 1))))) j pre (fun m => if m = l then R l ++ [s] else R m) (fun m => if m = l then q else Q m) lg := by
  have hqj : q ≠ j := by
    rcases h12 with ⟨_, a, _⟩ | ⟨a, b, _⟩
    · exact fun hh => by rw [hh, I.outer] at a; cases a
    · exact fun hh => by rw [hh, hdel_ne _ (Ne.symm (I.row l hl a).2.1), I.outer] at b; cases b
  have hq0 : h0 q = none := by
    rcases h12 with ⟨a0, a, _⟩ | ⟨a, b, _⟩
    · rw [← I.rest q hqj fun m hm hr hh => by rw [hh, (I.row m hm hr).1] at a; cases a]; exact a
    · by_cases hql : q = Q l
      · rw [hql]; exact (I.row l hl a).2.2
      · rw [hdel_ne _ hql] at b
        rw [← I.rest q hqj fun m hm hr hh => by rw [hh, (I.row m hm hr).1] at b; cases b]; exact b
  have hqm : ∀ m, m < 16 → m ≠ l → R m ≠ [] → Q m ≠ q ∧ h2 (Q m) = h1 (Q m) := by
    intro m hm hml hr
    obtain ⟨r1, r2, _⟩ := I.row m hm hr
    rcases h12 with ⟨a0, a, rfl⟩ | ⟨a, b, rfl⟩
    · have : Q m ≠ q := fun hh => by rw [← hh, r1] at a; cases a
      exact ⟨this, hset_ne _ _ this⟩
    · have hd := I.dif m l hm hl hml hr a
      have : Q m ≠ q := fun hh => by rw [← hh, hdel_ne _ hd, r1] at b; cases b
      exact ⟨this, by rw [hset_ne _ _ this, hdel_ne _ hd]⟩
  have h2j : h2 j = h1 j := by
    rcases h12 with ⟨a0, a, rfl⟩ | ⟨a, b, rfl⟩
    · exact hset_ne _ _ (Ne.symm hqj)
    · rw [hset_ne _ _ (Ne.symm hqj), hdel_ne _ (Ne.symm (I.row l hl a).2.1)]
  have h2q : h2 q = some (.cells 3 false ((R l ++ [s]).map (iv .i64))) := by
    rcases h12 with ⟨a0, a, rfl⟩ | ⟨a, b, rfl⟩ <;> exact hset_at _ _ _
  refine ⟨h2j.trans I.outer, ?_, fun m hm hr => ?_, fun a b ha hb hab hra hrb => ?_, fun x hx hxq => ?_, I.new⟩
  · rw [hset_at, tabA_set hp hl]
    congr 3
    funext m
    by_cases hml : m = l
    · subst hml
      rw [if_pos rfl, if_pos rfl, if_pos rfl, symW, if_neg (by simp), List.length_append]; rfl
    · rw [if_neg hml, if_neg hml, if_neg hml]
  · by_cases hml : m = l
    · subst hml
      rw [if_pos rfl, if_pos rfl]
      exact ⟨(hset_ne _ _ hqj).trans h2q, hqj, hq0⟩
    · rw [if_neg hml] at hr ⊢
      rw [if_neg hml]
      obtain ⟨r1, r2, r3⟩ := I.row m hm hr
      exact ⟨(hset_ne _ _ r2).trans ((hqm m hm hml hr).2.trans r1), r2, r3⟩
  · by_cases hal : a = l
    · subst hal
      rw [if_neg (Ne.symm hab)] at hrb
      rw [if_pos rfl, if_neg (Ne.symm hab)]
      exact Ne.symm (hqm b hb (Ne.symm hab) hrb).1
    · rw [if_neg hal] at hra
      rw [if_neg hal]
      by_cases hbl : b = l
      · rw [if_pos hbl]; exact (hqm a ha hal hra).1
      · rw [if_neg hbl] at hrb ⊢
        exact I.dif a b ha hb hab hra hrb
  · rw [hset_ne _ _ hx]
    have hxq' : x ≠ q := by have := hxq l hl (by rw [if_pos rfl]; simp); rwa [if_pos rfl] at this
    have hoth : ∀ m, m < 16 → m ≠ l → R m ≠ [] → x ≠ Q m := fun m hm hml hr => by have := hxq m hm (by rw [if_neg hml]; exact hr); rwa [if_neg hml] at this
    rcases h12 with ⟨a0, a, rfl⟩ | ⟨a, b, rfl⟩
    · rw [hset_ne _ _ hxq']
      exact I.rest x hx fun m hm hr => by
        by_cases hml : m = l
        · subst hml; exact absurd a0 hr
        · exact hoth m hm hml hr
    · rw [hset_ne _ _ hxq']
      by_cases hxl : x = Q l
      · rw [hxl, hdel_at]; exact (I.row l hl a).2.2.symm
      · rw [hdel_ne _ hxl]
        exact I.rest x hx fun m hm hr => by
          by_cases hml : m = l
          · subst hml; exact hxl
          · exact hoth m hm hml hr
end
end Go.Proofs.Ytncicgfbnjneeaa.VNew
