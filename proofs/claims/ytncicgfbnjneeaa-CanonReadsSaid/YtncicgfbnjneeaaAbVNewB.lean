/- a table of codes, over the machine of values: New, walked. -/
import Derived.Test.YtncicgfbnjneeaaProg
import Derived.Test.YtncicgfbnjneeaaAbV16
import Derived.Test.YtncicgfbnjneeaaAbFacts
import Derived.Test.YtncicgfbnjneeaaAbBitsM
import Derived.Test.YtncicgfbnjneeaaAbVBits
import Derived.Test.YtncicgfbnjneeaaAbVBitsT
import Derived.Test.YtncicgfbnjneeaaAbVLen
import Derived.Test.YtncicgfbnjneeaaAbVCheck
import Derived.Test.YtncicgfbnjneeaaAbVCodes
import Derived.Test.YtncicgfbnjneeaaAbVRCodes
import Derived.Test.YtncicgfbnjneeaaAbVNew
import Derived.KernelRfl
import Derived.Laws.BitsAllLaws
set_option linter.unusedVariables false
set_option linter.unusedSimpArgs false
set_option maxRecDepth 100000
set_option maxHeartbeats 4000000
namespace Go.Proofs.Ytncicgfbnjneeaa.VNewB
open Go.RowKit Go.Proofs.AbM Go.Proofs.Ytncicgfbnjneeaa.Facts Go.Proofs.Ytncicgfbnjneeaa.BitsM Go.Proofs.Ytncicgfbnjneeaa.VBits Go.Proofs.Ytncicgfbnjneeaa.VBitsT Go.Proofs.Ytncicgfbnjneeaa.VLen Go.Proofs.Ytncicgfbnjneeaa.VCheck Go.Proofs.Ytncicgfbnjneeaa.VCodes Go.Proofs.Ytncicgfbnjneeaa.VRCodes Go.Proofs.Ytncicgfbnjneeaa.VNew
attribute [local go_sem] vawp_skip_eq vawp_seq_eq vawp_region_eq vawp_cond_g vawp_block_eq vawp_exit_eq vawp_ret_eq thenV_ret thenV_exit thenV_normal inBlockV_normal inBlockV_ret inBlockV_exit resKV_nil resKV_tmp resKV_cell oneV_one oneV_nil oneV_more initV_nil initV_cons updV_at evv_tmp evv_func evv_global evv_int evv_bool evv_str evv_snil evv_pnil evv_agg ofV3_int ofV3_bool ofV3_str ofV3_snil ofV3_pnil vok_tmp vok_func vok_global vok_int vok_bool vok_str vok_snil vok_pnil vok_agg cloV3_int cloV3_bool cloV3_str cloV3_snil cloV3_pnil voks_nil voks_cons scV_int scV_bool scV_str isBlV_b isBV_t isBV_f lwV_none lwV_sc lwV_agg lwV_tup lwV_isl lwV_own lwV_op lwV_ip lwV_fn lwV_junk vops_nil vops_n vops_s gsN_eq vop dstOk_some dstOk_none pkV_b blkV_set eRead_f eRead_t vLoad_op vLoad_ip vStore_op cells_sc cells_isl cells_own cells_op cells_ip cells_fn cells_agg parts_sc parts_isl parts_own parts_op parts_ip parts_fn parts_agg one_sc one_isl one_own one_op one_ip one_fn vField_op vField_ip ePart_f ePart_t vFieldV_agg vIx_isl vIx_own vIx_op vIx_ip vIxV_agg vIxV_str vLen_str vLen_isl vLen_own vLen_agg bndE_none bndE_int vSlice_isl vSlice_str vBin_add vBin_sub vBin_mul vBin_quo vBin_rem vBin_and vBin_or vBin_xor vBin_andNot vBin_eql vBin_neq vBin_lss vBin_leq vBin_gtr vBin_geq vBin_shr_i8 vBin_shl_i8 vBin_shr_i16 vBin_shl_i16 vBin_shr_i32 vBin_shl_i32 vBin_shr_i64 vBin_shl_i64 vBin_shr_u8 vBin_shl_u8 vBin_shr_u16 vBin_shl_u16 vBin_shr_u32 vBin_shl_u32 vBin_shr_u64 vBin_shl_u64 vBin_seq vBin_sne vBin_isln vBin_opn vBin_ipn ex_sc ex_sc2 ex_sc3 ex_tup calleeV wSc_pb wSc_pi wSc_not wSc_neg wSc_com wSc_min2 wSc_max2 vfold_nil vfold_one vfold_cons vfill_nil vfill_e eFill_s vBuild vBox vAlloc setV_map setV_zs setV_zn setV_s hset_hset eConv_ss vConv_e iv_eq ivI_eq ex_get ex_getI set_iv set_ivI okNil isNilV isSlV hdel_at hset_at List.map_toArray List.map_cons List.map_nil List.nil_append List.cons_append List.append_nil List.toList_toArray List.getElem?_toArray List.getElem_toArray List.getElem_cons_zero List.getElem_cons_succ List.getElem?_cons_zero List.getElem?_cons_succ List.set_cons_zero List.set_cons_succ List.set_set List.length_cons List.length_nil List.length_set List.length_map List.all_cons List.all_nil List.drop_zero List.drop_succ_cons List.take_succ_cons List.take_zero List.flatMap_cons Bool.and_eq_true true_and and_true if_true if_false ite_true ite_false forall_eq' forall_eq exists_eq_left exists_eq_left' exists_eq' Value.bool.injEq Value.int.injEq Value.string.injEq Value.pointer.injEq Option.some.injEq AV.sc.injEq AV.op.injEq AV.ip.injEq AV.own.injEq AV.agg.injEq VB.cells.injEq VB.iter.injEq Prod.mk.injEq decide_eq_true_eq decide_eq_false_iff_not Nat.reduceEqDiff Nat.reduceLT Nat.reduceLeDiff Nat.reduceSub Nat.reduceBEq reduceIte Int.reduceLE Int.reduceLT Int.reduceToNat Int.reduceNeg Int.reduceEq Int.reduceNe Int.cast_ofNat_Int Nat.reduceMul Nat.reduceAdd Nat.reduceDiv Nat.reduceMod Nat.reducePow Int.reduceSub Int.reduceAdd Int.reduceMul Int.reducePow Option.isSome_some Option.isSome_none Option.bind_some Option.map_some Option.map_none Option.toList_some Option.toList_none true_or or_true or_false false_or Bool.not_true Bool.not_false Bool.not_eq_true Bool.false_eq_true Bool.not_not false_implies true_implies implies_true Nat.zero_add Nat.add_zero Nat.mul_one Bool.not_eq_true' Bool.true_eq_false Bool.and_true Bool.true_and Bool.and_false Bool.false_and Bool.or_true Bool.true_or Bool.or_false Bool.false_or Option.isNone_some Option.isNone_none Int.reduceBEq Int.reduceBNe beq_self_eq_true bne_self_eq_false beq_iff_eq not_false_eq_true not_true_eq_false Decidable.not_not bne_iff_ne ne_eq Int.toNat_natCast gt_lt ge_le c_add c_mul c_sub c_addn c_nadd c_muln c_nmul c_subn c_nsub c_divn c_modn c_div c_mod c_tdivn c_tmodn c_tdiv c_tmod c_pow c_nn c_beq c_beqn c_bne c_bnen wr64 wr32 wru64 wru32 wru16 wru8 c_if c_if1 c_if2 c_lt c_le c_eq c_ltn c_len c_nlt c_nle c_eqn m_drop m_take Nat.add_sub_cancel_left Nat.add_sub_cancel Int.reduceTMod Int.reduceTDiv Int.reduceMod Int.reduceDiv isC_some hset_ne hdel_ne hdel_hset hdel_hset_ne blkV_nset blkV_ndel hset_hdel gV_t gV_f isGdV_b isGdV_u isBV_u isGdV_g isBV_gt isBV_gf decide_true decide_false Bool.or_eq_false_iff eq_self Nat.lt_irrefl Int.lt_irrefl Nat.le_refl Int.le_refl
attribute [local go_sem high] vops_pk vops_mv vops_as vops_smv pk_and pk_or pk_gand pk_gor pk_orn pk_gorn
attribute [local go_sem] ag3 sz3 zc3 ik3 ag4 sz4 zc4 ag5 sz5 zc5 ik5 ag22 sz22 el22 zc22 is22 ag24 sz24 el24 zc24 is24 ag25 sz25 zc25 ik25 ag30 sz30 zc30 ik30 ag31 sz31 zc31 pt31 ag38 sz38 el38 zc38 is38 ag39 sz39 zc39 pt39 ag49 sz49 zc49 bo49 ag54 sz54 ea54 an54 zc54 bo54 ag58 sz58 ea58 an58 zc58 bo58 ag60 sz60 zc60 bo60 ag62 sz62 zc62 bo62 ag68 sz68 zc68 pt68 ag72 sz72 zc72 ag73 sz73 ea73 an73 zc73 bo73 of49_0 fd49_0 of49_1 fd49_1 of60_0 fd60_0 of60_1 fd60_1 of60_2 fd60_2 of60_3 fd60_3 of60_4 fd60_4 of62_0 fd62_0 of62_1 fd62_1 eqb neb
section
variable {n : Nat} {h : VH} {K : AV → VH → Prop}
attribute [local go_sem] Nat.zero_le
theorem frz_tab {h0 : VH} {j : Nat} {pre : List AV} {R : Nat → List Nat} {Q : Nat → Nat} {lg : Nat} {w : AV} (hp : pre.length = 18) (hn : h0 j = none) (hq0 : ∀ l, l < 16 → R l ≠ [] → Q l ≠ j ∧ h0 (Q l) = none) (hd : ∀ a b, a < 16 → b < 16 → a ≠ b → R a ≠ [] → R b ≠ [] → Q a ≠ Q b) (hK : K (.tup [.ip (tabA pre (fun l => symI (R l)) lg) 0, w]) h0) : ∀ (d k : Nat), d + k = 16 → ∀ h' : VH, h' j = some (.cells 60 false (tabA pre (fun l => if l < k then symI (R l) else symW (Q l) (R l)) lg)) → (∀ l, k ≤ l → l < 16 → R l ≠ [] → h' (Q l) = some (.cells 3 false ((R l).map (iv .i64)))) → (∀ x, x ≠ j → (∀ l, k ≤ l → l < 16 → R l ≠ [] → x ≠ Q l) → h' x = h0 x) → FrK K (.tup [.op j 0, w]) h'
  | 0, k, hk, h', e1, e2, e3 => by
    have hk16 : k = 16 := by omega
    subst hk16
    have ec : tabA pre (fun l => if l < 16 then symI (R l) else symW (Q l) (R l)) lg = tabA pre (fun l => symI (R l)) lg := by
      unfold tabA
      rw [List.map_congr_left (g := fun l => symI (R l)) (fun l hl => if_pos (List.mem_range.1 hl))]
    rw [ec] at e1
    refine .frz (v' := .tup [.ip (tabA pre (fun l => symI (R l)) lg) 0, w]) j e1 (.tup rfl (by
      intro i c c' h1 h2
      match i with
      | 0 => simp only [List.getElem?_cons_zero, Option.some.injEq] at h1 h2; subst h1 h2; exact .op _ rfl
      | 1 => simp only [List.getElem?_cons_succ, List.getElem?_cons_zero, Option.some.injEq] at h1 h2; subst h1 h2; exact .refl _
      | i + 2 => simp at h1)) (.now (hcast hK ?_))
    funext x
    by_cases hx : x = j
    · rw [hx, hn]; exact hdel_at _ _
    · rw [hdel_ne _ hx]; exact e3 x hx fun l hl hl2 => absurd hl2 (by omega)
  | d + 1, k, hk, h', e1, e2, e3 => by
    by_cases hr : R k = []
    · refine frz_tab hp hn hq0 hd hK d (k + 1) (by omega) h' ?_ (fun l hl => e2 l (by omega)) (fun x hx hxq => e3 x hx fun l hl hl2 hrl => ?_)
      · rw [e1]
        congr 3
        funext l
        by_cases hlk : l < k
        · rw [if_pos hlk, if_pos (by omega)]
        · rw [if_neg hlk]
          by_cases hl2 : l = k
          · rw [if_pos (by omega), hl2, symW, if_pos hr, symI, hr]; rfl
          · rw [if_neg (by omega)]
      · by_cases hlk : l = k
        · rw [hlk] at hrl; exact absurd hr hrl
        · exact hxq l (by omega) hl2 hrl
    · have hqj := (hq0 k (by omega) hr).1
      have hset' : (tabA pre (fun l => if l < k then symI (R l) else symW (Q l) (R l)) lg).set (18 + k) (symI (R k)) = tabA pre (fun l => if l < k + 1 then symI (R l) else symW (Q l) (R l)) lg := by
        rw [tabA_set hp (by omega)]
        congr 1
        funext l
        by_cases hlk : l = k
        · rw [if_pos hlk, if_pos (by omega), hlk]
        · rw [if_neg hlk]
          by_cases hl2 : l < k
          · rw [if_pos hl2, if_pos (by omega)]
          · rw [if_neg hl2, if_neg (by omega)]
      have hat : (tabA pre (fun l => if l < k then symI (R l) else symW (Q l) (R l)) lg)[18 + k]? = some (.own (Q k) 0 (R k).length) := by
        rw [tabA_sym hp (by omega), if_neg (by omega), symW, if_neg hr]
      refine .frzh (v' := .tup [.op j 0, w]) (h' := hset (hdel h' (Q k)) j (.cells 60 false (tabA pre (fun l => if l < k + 1 then symI (R l) else symW (Q l) (R l)) lg))) (Q k) (e2 k (Nat.le_refl k) (by omega) hr) (.refl _) (fun i => ?_) (frz_tab hp hn hq0 hd hK d (k + 1) (by omega) _ (hset_at _ _ _) (fun l hl hl2 hrl => ?_) (fun x hx hxq => ?_))
      · by_cases hi : i = j
        · subst hi
          rw [hset_at, hdel_ne _ (Ne.symm hqj), e1, ← hset']
          refine .cells (by simp) fun a c c' h1 h2 => ?_
          rw [List.getElem?_set] at h2
          by_cases ha : 18 + k = a
          · subst ha
            rw [hat] at h1
            rw [if_pos rfl] at h2
            split at h2
            · cases h1; cases h2
              unfold symI
              rw [decide_eq_false hr]
              exact .own _
            · cases h2
          · rw [if_neg ha, h1] at h2
            cases h2
            exact .refl _
        · rw [hset_ne _ _ hi]; exact .refl _
      · have hlk : l ≠ k := by omega
        rw [hset_ne _ _ (hq0 l hl2 hrl).1, hdel_ne _ (hd l k hl2 (by omega) hlk hrl hr)]
        exact e2 l (by omega) hl2 hrl
      · rw [hset_ne _ _ hx]
        by_cases hxk : x = Q k
        · rw [hxk, hdel_at]; exact (hq0 k (by omega) hr).2.symm
        · rw [hdel_ne _ hxk]
          exact e3 x hx fun l hl hl2 hrl => by
            by_cases hlk : l = k
            · rw [hlk]; exact hxk
            · exact hxq l (by omega) hl2 hrl
theorem SymT.frz {h0 h1 : VH} {j : Nat} {pre : List AV} {R : Nat → List Nat} {Q : Nat → Nat} {lg : Nat} {w : AV} (hp : pre.length = 18) (I : SymT h0 h1 j pre R Q lg) (hK : K (.tup [.ip (tabA pre (fun l => symI (R l)) lg) 0, w]) h0) : FrK K (.tup [.op j 0, w]) h1 := by
  refine frz_tab hp I.new (fun l hl hr => ⟨(I.row l hl hr).2.1, (I.row l hl hr).2.2⟩) I.dif hK 16 0 rfl h1 ?_ (fun l _ hl hr => (I.row l hl hr).1) (fun x hx hq => I.rest x hx fun l hl hr => hq l (Nat.zero_le _) hl hr)
  rw [I.outer]; rfl
theorem vfold_mid : ∀ (vs pre mid post : List AV), mid.length = vs.length → vfold pre.length vs (pre ++ (mid ++ post)) = pre ++ (vs ++ post)
  | [], pre, mid, post, h => by rw [List.eq_nil_of_length_eq_zero h]; rfl
  | v :: vs, pre, [], post, h => by simp at h
  | v :: vs, pre, m :: mid, post, h => by
    rw [vfold_cons, List.set_append_right _ _ (Nat.le_refl _), Nat.sub_self]
    have := vfold_mid vs (pre ++ [v]) mid post (by simpa using h)
    rw [List.length_append, List.length_singleton, List.append_assoc, List.append_assoc] at this
    exact this
def preT (nl : Bool) (ls : List Nat) : List AV := .isl nl ls.length (ls.map (iv .i64)) :: .isl false ls.length ((codesL ls).map (iv .u32)) :: (firstsL ls).map (iv .u32)
theorem preT_len (nl : Bool) (ls : List Nat) : (preT nl ls).length = 18 := by simp [preT, firsts_len]
/-- The cells of a table of codes, as it stays. -/
def tabC (nl : Bool) (ls : List Nat) : List AV := tabA (preT nl ls) (fun l => symI (symL ls ls.length l)) (longL ls ls.length)
theorem new_v {nl : Bool} {l : Nat} {xs : List Int} (hl : l = xs.length) (hnl : nl = true → xs = []) (hb : xs.length ≤ 140737488355328) (hK0 : chkL xs ≠ 0 → K (.tup [.sc (.pointer none), (.sc (.int .i64 ((chkL xs : Nat))))]) h) (hK1 : chkL xs = 0 → K (.tup [.ip (tabC nl (xs.map Int.toNat)) 0, (.sc (.int .i64 (0)))]) h) : VC Try.prog GL (n + 6) 11 [.isl nl l (xs.map (ivI .i64))] h K := by
  refine VC_go Try.func11 rfl (by decide) Try.ntmps11 Try.results11 rfl fun Q hq hn => ?_
  subst hl
  repeat (first | (simp (maxSteps := 1000000) only [↓reduceIte, go_sem]) | (simp (maxSteps := 1000000) (disch := first | omega | assumption) only [BB]) | with_reducible refine Gst.now ?_ | with_reducible refine vawp_draw mixed (by kernel_rfl) ?_ | with_reducible first | refine lwV_out ?_ | refine lwV_out0 ?_ | refine lkC_out ?_ | refine And.intro (by omega) ?_ | fail)
  with_reducible refine call_ok ?_
  refine codes_v rfl hb ?_
  by_cases hc0 : chkL xs = 0
  case neg =>
    have hr : codesR xs = (chkL xs, true, []) := if_neg hc0
    have hk := hK0 hc0
    rw [hr]
    have e1 := eq_false hc0
    repeat (first | (simp (maxSteps := 1000000) only [↓reduceIte, go_sem, e1]) | (simp (maxSteps := 1000000) (disch := first | omega | assumption) only [BB, e1]) | with_reducible refine Gst.now ?_ | with_reducible refine vawp_draw mixed (by kernel_rfl) ?_ | with_reducible first | refine lwV_out ?_ | refine lwV_out0 ?_ | refine lkC_out ?_ | refine And.intro (by omega) ?_ | fail)
    refine hq _ _ ?_
    repeat (first | (simp (maxSteps := 1000000) only [↓reduceIte, go_sem, e1]) | (simp (maxSteps := 1000000) (disch := first | omega | assumption) only [BB, e1]) | with_reducible refine Gst.now ?_ | with_reducible refine vawp_draw mixed (by kernel_rfl) ?_ | with_reducible first | refine lwV_out ?_ | refine lwV_out0 ?_ | refine lkC_out ?_ | refine And.intro (by omega) ?_ | fail)
    exact .now hk
  obtain ⟨ls, hls, h15, hb2, hs, hE4⟩ := chk_ok hc0
  have hr : codesR xs = (0, false, codesL ls) := by unfold codesR; rw [if_pos hc0, hE4]
  have hlen : xs.length = ls.length := by rw [hls, List.length_map]
  have hE3 : xs.map (ivI .i64) = ls.map (iv .i64) := by rw [hls]; exact natL_cells ls
  have hk := hK1 hc0
  rw [hE4] at hk
  have hnl2 : nl = true → ls = [] := fun hh => by have := hnl hh; rw [hls] at this; exact List.map_eq_nil_iff.1 this
  rw [hr, hE3, hlen]
  repeat (first | (simp (maxSteps := 1000000) only [↓reduceIte, go_sem]) | (simp (maxSteps := 1000000) (disch := first | omega | assumption) only [BB]) | with_reducible refine Gst.now ?_ | with_reducible refine vawp_draw mixed (by kernel_rfl) ?_ | with_reducible first | refine lwV_out ?_ | refine lwV_out0 ?_ | refine lkC_out ?_ | refine And.intro (by omega) ?_ | fail)
  with_reducible refine call_ok ?_
  refine clone_i rfl hnl2 (by omega) ?_
  repeat (first | (simp (maxSteps := 1000000) only [↓reduceIte, go_sem]) | (simp (maxSteps := 1000000) (disch := first | omega | assumption) only [BB]) | with_reducible refine Gst.now ?_ | with_reducible refine vawp_draw mixed (by kernel_rfl) ?_ | with_reducible first | refine lwV_out ?_ | refine lwV_out0 ?_ | refine lkC_out ?_ | refine And.intro (by omega) ?_ | fail)
  with_reducible refine call_ok ?_
  refine firsts_v rfl hb2 h15 hs ?_
  have hfl := firsts_len ls
  have hcol := codes_len ls
  have hpl := preT_len nl ls
  repeat (first | (simp (maxSteps := 1000000) only [↓reduceIte, go_sem]) | (simp (maxSteps := 1000000) (disch := first | omega | assumption) only [BB]) | with_reducible refine Gst.now ?_ | with_reducible refine vawp_draw mixed (by kernel_rfl) ?_ | with_reducible first | refine lwV_out ?_ | refine lwV_out0 ?_ | refine lkC_out ?_ | refine And.intro (by omega) ?_ | fail)
  refine ⟨tabA (preT nl ls) (fun _ => .isl true 0 []) 0, ?_, by rw [tabA_len hpl], ?_, fun j hj => ?_⟩
  · rw [if_pos ⟨hfl, by omega⟩, hcol]
    have := vfold_mid ((firstsL ls).map (iv .u32)) [.isl nl ls.length (ls.map (iv .i64)), .isl false ls.length ((codesL ls).map (iv .u32))] (List.replicate 16 (.sc (.int .u32 (0)))) (List.replicate 16 (.isl true 0 []) ++ [(.sc (.int .i64 (0)))]) (by rw [List.length_map, hfl]; rfl)
    exact congrArg some this
  · unfold tabA preT
    simp only [List.all_append, List.all_cons, Bool.and_eq_true]
    refine ⟨⟨rfl, rfl, ?_⟩, ?_, rfl, rfl⟩
    · rw [List.all_map]; exact List.all_eq_true.2 fun _ _ => rfl
    · rw [List.all_map]; exact List.all_eq_true.2 fun _ _ => rfl
  generalize hpr : preT nl ls = pre at *
  repeat (first | (simp (maxSteps := 1000000) only [↓reduceIte, go_sem]) | (simp (maxSteps := 1000000) (disch := first | omega | assumption) only [BB]) | with_reducible refine Gst.now ?_ | with_reducible refine vawp_draw mixed (by kernel_rfl) ?_ | with_reducible first | refine lwV_out ?_ | refine lwV_out0 ?_ | refine lkC_out ?_ | refine And.intro (by omega) ?_ | fail)
  refine vawp_loop (k := ls.length) (fun c ρ h1 => ∃ (i : Nat) (Q : Nat → Nat), c + i = ls.length ∧ ρ 6 = .op j 0 ∧ ρ 24 = .isl nl ls.length (ls.map (iv .i64)) ∧ ρ 25 = (.sc (.int .i64 ((ls.length : Nat)))) ∧ ρ 26 = (.sc (.int .i64 ((i : Nat)))) ∧ SymT h h1 j pre (symL ls i) Q (longL ls i)) ?_ ?_
  · refine ⟨0, fun _ => 0, by omega, ?_⟩
    repeat (first | (simp (maxSteps := 1000000) only [↓reduceIte, go_sem]) | (simp (maxSteps := 1000000) (disch := first | omega | assumption) only [BB]) | with_reducible refine Gst.now ?_ | with_reducible refine vawp_draw mixed (by kernel_rfl) ?_ | with_reducible first | refine lwV_out ?_ | refine lwV_out0 ?_ | refine lkC_out ?_ | refine And.intro (by omega) ?_ | fail)
    exact ⟨hset_at _ _ _, fun l hl hr => absurd rfl hr, fun a b _ _ _ hr => absurd rfl hr, fun x hx _ => hset_ne _ _ hx, hj⟩
  · rintro c ρ h1 ⟨i, Q, hc, g6, g24, g25, g26, I⟩
    by_cases hi : i < ls.length
    · have e1 := eq_true hi
      have hx15 := getD_leN (i := i) h15
      have hnx := symL_next ls i
      have hln : longL ls (i + 1) = if longL ls i < ls.getD i 0 then ls.getD i 0 else longL ls i := rfl
      by_cases h0 : 0 < ls.getD i 0
      · have e2 := eq_true h0
        have e3 : blkV h1 j = some (60, tabA pre (fun l => symW (Q l) (symL ls i l)) (longL ls i)) := blkV_iff.2 I.outer
        have e4 : isC (h1 j) = true := by rw [I.outer]; rfl
        have e5 : (ls.getD i 0 < 16) = True := eq_true (by omega)
        have e6 := tabA_len (W := fun l => symW (Q l) (symL ls i l)) (lg := longL ls i) hpl
        have hgt := tabA_sym (W := fun l => symW (Q l) (symL ls i l)) (lg := longL ls i) (l := ls.getD i 0) hpl (by omega)
        have hrl := symL_len ls i (ls.getD i 0)
        by_cases hr : symL ls i (ls.getD i 0) = []
        · have e7 : (tabA pre (fun l => symW (Q l) (symL ls i l)) (longL ls i))[18 + ls.getD i 0]? = some (.isl true 0 []) := by rw [hgt, symW, if_pos hr]
          repeat (first | (simp (maxSteps := 1000000) only [↓reduceIte, go_sem, g6, g24, g25, g26, e1, e2, e3, e4, e5, e6, e7]) | (simp (maxSteps := 1000000) (disch := first | omega | assumption) only [BB, g6, g24, g25, g26, e1, e2, e3, e4, e5, e6, e7]) | with_reducible refine Gst.now ?_ | with_reducible first | refine lwV_out ?_ | refine lwV_out0 ?_ | refine lkC_out ?_ | refine And.intro (by omega) ?_ | fail)
          refine vawp_split2 [0, 1, 2, 3, 4, 5, 6, 8, 11, 12, 13] [7, 9, 10, 14] (fun h' => (blkV h' j).isSome = true) mixed (by kernel_rfl) ?_ ?_
          · rw [e3]; rfl
          simp only [pickO_cons, pickO_nil, List.getElem?_toArray, List.getElem?_cons_zero, List.getElem?_cons_succ]
          repeat (first | (apply vopsP_n; (case hd => rfl); (case hq => (intro h' K' hI' hk'; repeat (first | simp (maxSteps := 4000000) (disch := first | omega | assumption) only [↓reduceIte, go_sem, hI', g6, g24, g25, g26, e1, e2, e3, e4, e5, e6, e7] | with_reducible refine Gst.now ?_ | with_reducible refine vawp_draw mixed (by kernel_rfl) ?_ | with_reducible first | refine lwV_out ?_ | refine lwV_out0 ?_ | refine lkC_out ?_ | refine And.intro (by omega) ?_ | fail); exact hk'))) | fail)
          simp only [vopsP_nil]
          try simp only [putV_s, putV_n]
          refine vopsT_2 7 9 (by kernel_rfl) rfl rfl (by first | trivial | exact Nat.le_of_ble_eq_true rfl) rfl (by first | trivial | exact Nat.le_of_ble_eq_true rfl) rfl ?_ ?_
          · repeat (first | (simp (maxSteps := 1000000) only [↓reduceIte, go_sem, g6, g24, g25, g26, e1, e2, e3, e4, e5, e6, e7]) | (simp (maxSteps := 1000000) (disch := first | omega | assumption) only [BB, g6, g24, g25, g26, e1, e2, e3, e4, e5, e6, e7]) | with_reducible refine Gst.now ?_ | with_reducible refine vawp_draw mixed (by kernel_rfl) ?_ | with_reducible first | refine lwV_out ?_ | refine lwV_out0 ?_ | refine lkC_out ?_ | refine And.intro (by omega) ?_ | fail)
            try simp only [putV_s, putV_n]
            refine vopsT_1 9 (by kernel_rfl) rfl (by first | trivial | exact Nat.le_of_ble_eq_true rfl) rfl ?_
            repeat (first | (simp (maxSteps := 1000000) only [↓reduceIte, go_sem]) | (simp (maxSteps := 1000000) (disch := first | omega | assumption) only [BB]) | with_reducible refine Gst.now ?_ | with_reducible refine vawp_draw mixed (by kernel_rfl) ?_ | with_reducible first | refine lwV_out ?_ | refine lwV_out0 ?_ | refine lkC_out ?_ | refine And.intro (by omega) ?_ | fail)
            refine vBuildS_i bs22 ?_ ?_ ?_ ?_ ?_
            rfl
            rfl
            rfl
            rfl
            repeat (first | (simp (maxSteps := 1000000) only [↓reduceIte, go_sem]) | (simp (maxSteps := 1000000) (disch := first | omega | assumption) only [BB]) | with_reducible refine Gst.now ?_ | with_reducible refine vawp_draw mixed (by kernel_rfl) ?_ | with_reducible first | refine lwV_out ?_ | refine lwV_out0 ?_ | refine lkC_out ?_ | refine And.intro (by omega) ?_ | fail)
            refine ⟨by rw [e3]; rfl, ?_⟩
            try simp only [putV_s, putV_n]
            refine vopsT_1 10 (by kernel_rfl) rfl (by first | trivial | exact Nat.le_of_ble_eq_true rfl) rfl ?_
            repeat (first | (simp (maxSteps := 1000000) only [↓reduceIte, go_sem]) | (simp (maxSteps := 1000000) (disch := first | omega | assumption) only [BB]) | with_reducible refine Gst.now ?_ | with_reducible refine vawp_draw mixed (by kernel_rfl) ?_ | with_reducible first | refine lwV_out ?_ | refine lwV_out0 ?_ | refine lkC_out ?_ | refine And.intro (by omega) ?_ | fail)
            apply vApp_nil_isl ap22 (by simp only [go_sem])
            case hv => first | (simp []; done) | (simp []; omega) | rfl | assumption
            case h1 => first | omega | (simp []; omega) | (simp []; done)
            case h2 => first | omega | (simp []; omega) | (simp []; done)
            try (case hK0 => first | (intro hh; omega) | (intro hh; exact absurd hh (by decide)))
            intro _ q hq1
            obtain ⟨a1, a2⟩ := SymT.app (s := i) hpl I (by omega) (.inl ⟨hr, hq1, rfl⟩)
            have hR2 : symL ls (i + 1) = fun m => if m = ls.getD i 0 then symL ls i (ls.getD i 0) ++ [i] else symL ls i m := by
              funext m
              rw [hnx]
              by_cases hm : m = ls.getD i 0
              · rw [if_pos hm, if_pos ⟨by omega, hm.symm⟩, hm]
              · rw [if_neg hm, if_neg (fun hh => hm hh.2.symm), List.append_nil]
            have hW2 : (tabA pre (fun l => symW (Q l) (symL ls i l)) (longL ls i)).set (18 + ls.getD i 0) (.own q 0 ((symL ls i (ls.getD i 0)).length + 1)) = tabA pre (fun m => symW (if m = ls.getD i 0 then q else Q m) (if m = ls.getD i 0 then symL ls i (ls.getD i 0) ++ [i] else symL ls i m)) (longL ls i) := by
              rw [tabA_set hpl (by omega)]
              congr 1
              funext m
              by_cases hm : m = ls.getD i 0
              · rw [if_pos hm, if_pos hm, if_pos hm, symW, if_neg (by simp), List.length_append]; rfl
              · rw [if_neg hm, if_neg hm, if_neg hm]
            rw [hW2, ← hR2] at a2
            have hW3 : (fun m => symW (if m = ls.getD i 0 then q else Q m) (if m = ls.getD i 0 then symL ls i (ls.getD i 0) ++ [i] else symL ls i m)) = fun m => symW (if m = ls.getD i 0 then q else Q m) (symL ls (i + 1) m) := by rw [hR2]
            rw [hW3] at a2 hW2
            have a3 := a2.lg (lg' := longL ls (i + 1))
            rw [hset_hset] at a3
            rw [hln] at a3
            have e12 := tabA_lg (W := fun m => symW (if m = ls.getD i 0 then q else Q m) (symL ls (i + 1) m)) (lg := longL ls i) hpl
            have e13 := tabA_len (W := fun m => symW (if m = ls.getD i 0 then q else Q m) (symL ls (i + 1) m)) (lg := longL ls i) hpl
            generalize hWW : (fun m => symW (if m = ls.getD i 0 then q else Q m) (symL ls (i + 1) m)) = W2 at *
            have e14 : ∀ v : Nat, setV (tabA pre W2 (longL ls i)) 34 [(.sc (.int .i64 ((v : Nat))))] = tabA pre W2 v := fun v => (setV_one (by rw [e13]; omega)).trans (tabA_setlg hpl v)
            have hR : symL ls i (ls.getD i 0) ++ [i] = [i] := by rw [hr]; rfl
            rw [hR] at a1 a2 a3
            have e8 : blkV (hset h1 q (.cells 3 false [(.sc (.int .i64 ((i : Nat))))])) j = some (60, tabA pre (fun l => symW (Q l) (symL ls i l)) (longL ls i)) := blkV_iff.2 a1
            have e9 : setV (tabA pre (fun l => symW (Q l) (symL ls i l)) (longL ls i)) (18 + ls.getD i 0) [.own q 0 1] = tabA pre W2 (longL ls i) := by
              rw [setV_one (by rw [e6]; omega), ← hW2, hr]; rfl
            repeat (first | (simp (maxSteps := 1000000) only [↓reduceIte, go_sem, g6, g24, g25, g26, e1, e2, e3, e4, e5, e6, e7, e12, e13, e14, e8, e9]) | (simp (maxSteps := 1000000) (disch := first | omega | assumption) only [BB, g6, g24, g25, g26, e1, e2, e3, e4, e5, e6, e7, e12, e13, e14, e8, e9]) | with_reducible refine Gst.now ?_ | with_reducible refine vawp_draw mixed (by kernel_rfl) ?_ | with_reducible first | refine lwV_out ?_ | refine lwV_out0 ?_ | refine lkC_out ?_ | refine And.intro (by omega) ?_ | fail)
            try simp only [putV_s, putV_n]
            refine vopsT_1 14 (by kernel_rfl) rfl (by first | trivial | exact Nat.le_of_ble_eq_true rfl) rfl ?_
            repeat (first | (simp (maxSteps := 1000000) only [↓reduceIte, go_sem]) | (simp (maxSteps := 1000000) (disch := first | omega | assumption) only [BB]) | with_reducible refine Gst.now ?_ | with_reducible refine vawp_draw mixed (by kernel_rfl) ?_ | with_reducible first | refine lwV_out ?_ | refine lwV_out0 ?_ | refine lkC_out ?_ | refine And.intro (by omega) ?_ | fail)
            try simp only [putV_s, putV_n]
            try simp only [vopsT_0]
            repeat (first | (simp (maxSteps := 1000000) only [↓reduceIte, go_sem, g6, g24, g25, g26, e1, e2, e3, e4, e5, e6, e7, e12, e13, e14, e8, e9]) | (simp (maxSteps := 1000000) (disch := first | omega | assumption) only [BB, g6, g24, g25, g26, e1, e2, e3, e4, e5, e6, e7, e12, e13, e14, e8, e9]) | with_reducible refine Gst.now ?_ | with_reducible refine vawp_draw mixed (by kernel_rfl) ?_ | with_reducible first | refine lwV_out ?_ | refine lwV_out0 ?_ | refine lkC_out ?_ | refine And.intro (by omega) ?_ | fail)
            exact ⟨c - 1, by omega, i + 1, fun m => if m = ls.getD i 0 then q else Q m, by omega, rfl, by rw [hln]; exact a3⟩
          · repeat (first | (simp (maxSteps := 1000000) only [↓reduceIte, go_sem, g6, g24, g25, g26, e1, e2, e3, e4, e5, e6, e7]) | (simp (maxSteps := 1000000) (disch := first | omega | assumption) only [BB, g6, g24, g25, g26, e1, e2, e3, e4, e5, e6, e7]) | with_reducible refine Gst.now ?_ | with_reducible refine vawp_draw mixed (by kernel_rfl) ?_ | with_reducible first | refine lwV_out ?_ | refine lwV_out0 ?_ | refine lkC_out ?_ | refine And.intro (by omega) ?_ | fail)
            refine vBuildS_i bs22 ?_ ?_ ?_ ?_ ?_
            rfl
            rfl
            rfl
            rfl
            repeat (first | (simp (maxSteps := 1000000) only [↓reduceIte, go_sem]) | (simp (maxSteps := 1000000) (disch := first | omega | assumption) only [BB]) | with_reducible refine Gst.now ?_ | with_reducible refine vawp_draw mixed (by kernel_rfl) ?_ | with_reducible first | refine lwV_out ?_ | refine lwV_out0 ?_ | refine lkC_out ?_ | refine And.intro (by omega) ?_ | fail)
            refine ⟨by rw [e3]; rfl, ?_⟩
            try simp only [putV_s, putV_n]
            refine vopsT_1 7 (by kernel_rfl) rfl (by first | trivial | exact Nat.le_of_ble_eq_true rfl) rfl ?_
            repeat (first | (simp (maxSteps := 1000000) only [↓reduceIte, go_sem]) | (simp (maxSteps := 1000000) (disch := first | omega | assumption) only [BB]) | with_reducible refine Gst.now ?_ | with_reducible refine vawp_draw mixed (by kernel_rfl) ?_ | with_reducible first | refine lwV_out ?_ | refine lwV_out0 ?_ | refine lkC_out ?_ | refine And.intro (by omega) ?_ | fail)
            repeat (first | (simp (maxSteps := 1000000) only [↓reduceIte, go_sem, g6, g24, g25, g26, e1, e2, e3, e4, e5, e6, e7]) | (simp (maxSteps := 1000000) (disch := first | omega | assumption) only [BB, g6, g24, g25, g26, e1, e2, e3, e4, e5, e6, e7]) | with_reducible refine Gst.now ?_ | with_reducible refine vawp_draw mixed (by kernel_rfl) ?_ | with_reducible first | refine lwV_out ?_ | refine lwV_out0 ?_ | refine lkC_out ?_ | refine And.intro (by omega) ?_ | fail)
            try simp only [putV_s, putV_n]
            refine vopsT_1 10 (by kernel_rfl) rfl (by first | trivial | exact Nat.le_of_ble_eq_true rfl) rfl ?_
            repeat (first | (simp (maxSteps := 1000000) only [↓reduceIte, go_sem]) | (simp (maxSteps := 1000000) (disch := first | omega | assumption) only [BB]) | with_reducible refine Gst.now ?_ | with_reducible refine vawp_draw mixed (by kernel_rfl) ?_ | with_reducible first | refine lwV_out ?_ | refine lwV_out0 ?_ | refine lkC_out ?_ | refine And.intro (by omega) ?_ | fail)
            apply vApp_nil_isl ap22 (by simp only [go_sem])
            case hv => first | (simp []; done) | (simp []; omega) | rfl | assumption
            case h1 => first | omega | (simp []; omega) | (simp []; done)
            case h2 => first | omega | (simp []; omega) | (simp []; done)
            try (case hK0 => first | (intro hh; omega) | (intro hh; exact absurd hh (by decide)))
            intro _ q hq1
            obtain ⟨a1, a2⟩ := SymT.app (s := i) hpl I (by omega) (.inl ⟨hr, hq1, rfl⟩)
            have hR2 : symL ls (i + 1) = fun m => if m = ls.getD i 0 then symL ls i (ls.getD i 0) ++ [i] else symL ls i m := by
              funext m
              rw [hnx]
              by_cases hm : m = ls.getD i 0
              · rw [if_pos hm, if_pos ⟨by omega, hm.symm⟩, hm]
              · rw [if_neg hm, if_neg (fun hh => hm hh.2.symm), List.append_nil]
            have hW2 : (tabA pre (fun l => symW (Q l) (symL ls i l)) (longL ls i)).set (18 + ls.getD i 0) (.own q 0 ((symL ls i (ls.getD i 0)).length + 1)) = tabA pre (fun m => symW (if m = ls.getD i 0 then q else Q m) (if m = ls.getD i 0 then symL ls i (ls.getD i 0) ++ [i] else symL ls i m)) (longL ls i) := by
              rw [tabA_set hpl (by omega)]
              congr 1
              funext m
              by_cases hm : m = ls.getD i 0
              · rw [if_pos hm, if_pos hm, if_pos hm, symW, if_neg (by simp), List.length_append]; rfl
              · rw [if_neg hm, if_neg hm, if_neg hm]
            rw [hW2, ← hR2] at a2
            have hW3 : (fun m => symW (if m = ls.getD i 0 then q else Q m) (if m = ls.getD i 0 then symL ls i (ls.getD i 0) ++ [i] else symL ls i m)) = fun m => symW (if m = ls.getD i 0 then q else Q m) (symL ls (i + 1) m) := by rw [hR2]
            rw [hW3] at a2 hW2
            have a3 := a2.lg (lg' := longL ls (i + 1))
            rw [hset_hset] at a3
            rw [hln] at a3
            have e12 := tabA_lg (W := fun m => symW (if m = ls.getD i 0 then q else Q m) (symL ls (i + 1) m)) (lg := longL ls i) hpl
            have e13 := tabA_len (W := fun m => symW (if m = ls.getD i 0 then q else Q m) (symL ls (i + 1) m)) (lg := longL ls i) hpl
            generalize hWW : (fun m => symW (if m = ls.getD i 0 then q else Q m) (symL ls (i + 1) m)) = W2 at *
            have e14 : ∀ v : Nat, setV (tabA pre W2 (longL ls i)) 34 [(.sc (.int .i64 ((v : Nat))))] = tabA pre W2 v := fun v => (setV_one (by rw [e13]; omega)).trans (tabA_setlg hpl v)
            have hR : symL ls i (ls.getD i 0) ++ [i] = [i] := by rw [hr]; rfl
            rw [hR] at a1 a2 a3
            have e8 : blkV (hset h1 q (.cells 3 false [(.sc (.int .i64 ((i : Nat))))])) j = some (60, tabA pre (fun l => symW (Q l) (symL ls i l)) (longL ls i)) := blkV_iff.2 a1
            have e9 : setV (tabA pre (fun l => symW (Q l) (symL ls i l)) (longL ls i)) (18 + ls.getD i 0) [.own q 0 1] = tabA pre W2 (longL ls i) := by
              rw [setV_one (by rw [e6]; omega), ← hW2, hr]; rfl
            repeat (first | (simp (maxSteps := 1000000) only [↓reduceIte, go_sem, g6, g24, g25, g26, e1, e2, e3, e4, e5, e6, e7, e12, e13, e14, e8, e9]) | (simp (maxSteps := 1000000) (disch := first | omega | assumption) only [BB, g6, g24, g25, g26, e1, e2, e3, e4, e5, e6, e7, e12, e13, e14, e8, e9]) | with_reducible refine Gst.now ?_ | with_reducible refine vawp_draw mixed (by kernel_rfl) ?_ | with_reducible first | refine lwV_out ?_ | refine lwV_out0 ?_ | refine lkC_out ?_ | refine And.intro (by omega) ?_ | fail)
            try simp only [putV_s, putV_n]
            refine vopsT_1 14 (by kernel_rfl) rfl (by first | trivial | exact Nat.le_of_ble_eq_true rfl) rfl ?_
            repeat (first | (simp (maxSteps := 1000000) only [↓reduceIte, go_sem]) | (simp (maxSteps := 1000000) (disch := first | omega | assumption) only [BB]) | with_reducible refine Gst.now ?_ | with_reducible refine vawp_draw mixed (by kernel_rfl) ?_ | with_reducible first | refine lwV_out ?_ | refine lwV_out0 ?_ | refine lkC_out ?_ | refine And.intro (by omega) ?_ | fail)
            try simp only [putV_s, putV_n]
            try simp only [vopsT_0]
            repeat (first | (simp (maxSteps := 1000000) only [↓reduceIte, go_sem, g6, g24, g25, g26, e1, e2, e3, e4, e5, e6, e7, e12, e13, e14, e8, e9]) | (simp (maxSteps := 1000000) (disch := first | omega | assumption) only [BB, g6, g24, g25, g26, e1, e2, e3, e4, e5, e6, e7, e12, e13, e14, e8, e9]) | with_reducible refine Gst.now ?_ | with_reducible refine vawp_draw mixed (by kernel_rfl) ?_ | with_reducible first | refine lwV_out ?_ | refine lwV_out0 ?_ | refine lkC_out ?_ | refine And.intro (by omega) ?_ | fail)
            exact ⟨c - 1, by omega, i + 1, fun m => if m = ls.getD i 0 then q else Q m, by omega, rfl, by rw [hln]; exact a3⟩
        · obtain ⟨i1, i2, i3⟩ := I.row (ls.getD i 0) (by omega) hr
          have e7 : (tabA pre (fun l => symW (Q l) (symL ls i l)) (longL ls i))[18 + ls.getD i 0]? = some (.own (Q (ls.getD i 0)) 0 (symL ls i (ls.getD i 0)).length) := by rw [hgt, symW, if_neg hr]
          repeat (first | (simp (maxSteps := 1000000) only [↓reduceIte, go_sem, g6, g24, g25, g26, e1, e2, e3, e4, e5, e6, e7]) | (simp (maxSteps := 1000000) (disch := first | omega | assumption) only [BB, g6, g24, g25, g26, e1, e2, e3, e4, e5, e6, e7]) | with_reducible refine Gst.now ?_ | with_reducible first | refine lwV_out ?_ | refine lwV_out0 ?_ | refine lkC_out ?_ | refine And.intro (by omega) ?_ | fail)
          refine vawp_split2 [0, 1, 2, 3, 4, 5, 6, 8, 11, 12, 13] [7, 9, 10, 14] (fun h' => (blkV h' j).isSome = true) mixed (by kernel_rfl) ?_ ?_
          · rw [e3]; rfl
          simp only [pickO_cons, pickO_nil, List.getElem?_toArray, List.getElem?_cons_zero, List.getElem?_cons_succ]
          repeat (first | (apply vopsP_n; (case hd => rfl); (case hq => (intro h' K' hI' hk'; repeat (first | simp (maxSteps := 4000000) (disch := first | omega | assumption) only [↓reduceIte, go_sem, hI', g6, g24, g25, g26, e1, e2, e3, e4, e5, e6, e7] | with_reducible refine Gst.now ?_ | with_reducible refine vawp_draw mixed (by kernel_rfl) ?_ | with_reducible first | refine lwV_out ?_ | refine lwV_out0 ?_ | refine lkC_out ?_ | refine And.intro (by omega) ?_ | fail); exact hk'))) | fail)
          simp only [vopsP_nil]
          try simp only [putV_s, putV_n]
          refine vopsT_2 7 9 (by kernel_rfl) rfl rfl (by first | trivial | exact Nat.le_of_ble_eq_true rfl) rfl (by first | trivial | exact Nat.le_of_ble_eq_true rfl) rfl ?_ ?_
          · repeat (first | (simp (maxSteps := 1000000) only [↓reduceIte, go_sem, g6, g24, g25, g26, e1, e2, e3, e4, e5, e6, e7]) | (simp (maxSteps := 1000000) (disch := first | omega | assumption) only [BB, g6, g24, g25, g26, e1, e2, e3, e4, e5, e6, e7]) | with_reducible refine Gst.now ?_ | with_reducible refine vawp_draw mixed (by kernel_rfl) ?_ | with_reducible first | refine lwV_out ?_ | refine lwV_out0 ?_ | refine lkC_out ?_ | refine And.intro (by omega) ?_ | fail)
            try simp only [putV_s, putV_n]
            refine vopsT_1 9 (by kernel_rfl) rfl (by first | trivial | exact Nat.le_of_ble_eq_true rfl) rfl ?_
            repeat (first | (simp (maxSteps := 1000000) only [↓reduceIte, go_sem]) | (simp (maxSteps := 1000000) (disch := first | omega | assumption) only [BB]) | with_reducible refine Gst.now ?_ | with_reducible refine vawp_draw mixed (by kernel_rfl) ?_ | with_reducible first | refine lwV_out ?_ | refine lwV_out0 ?_ | refine lkC_out ?_ | refine And.intro (by omega) ?_ | fail)
            refine vBuildS_i bs22 ?_ ?_ ?_ ?_ ?_
            rfl
            rfl
            rfl
            rfl
            repeat (first | (simp (maxSteps := 1000000) only [↓reduceIte, go_sem]) | (simp (maxSteps := 1000000) (disch := first | omega | assumption) only [BB]) | with_reducible refine Gst.now ?_ | with_reducible refine vawp_draw mixed (by kernel_rfl) ?_ | with_reducible first | refine lwV_out ?_ | refine lwV_out0 ?_ | refine lkC_out ?_ | refine And.intro (by omega) ?_ | fail)
            refine ⟨by rw [e3]; rfl, ?_⟩
            try simp only [putV_s, putV_n]
            refine vopsT_1 10 (by kernel_rfl) rfl (by first | trivial | exact Nat.le_of_ble_eq_true rfl) rfl ?_
            repeat (first | (simp (maxSteps := 1000000) only [↓reduceIte, go_sem]) | (simp (maxSteps := 1000000) (disch := first | omega | assumption) only [BB]) | with_reducible refine Gst.now ?_ | with_reducible refine vawp_draw mixed (by kernel_rfl) ?_ | with_reducible first | refine lwV_out ?_ | refine lwV_out0 ?_ | refine lkC_out ?_ | refine And.intro (by omega) ?_ | fail)
            apply vApp_own_isl ap22 (by simp only [go_sem])
            case hv => first | (simp []; done) | (simp []; omega) | rfl | assumption
            case hj => repeat (first | exact hset_at _ _ _ | assumption | refine (hset_ne _ _ (by first | omega | assumption)).trans ?_ | refine (hdel_ne _ (by first | omega | assumption)).trans ?_ | fail)
            case hl => first | (simp []; done) | (simp []; omega) | rfl | assumption
            case h1 => first | omega | (simp []; omega) | (simp []; done)
            case h2 => first | omega | (simp []; omega) | (simp []; done)
            intro q hq1
            obtain ⟨a1, a2⟩ := SymT.app (s := i) hpl I (by omega) (.inr ⟨hr, hq1, rfl⟩)
            have hR2 : symL ls (i + 1) = fun m => if m = ls.getD i 0 then symL ls i (ls.getD i 0) ++ [i] else symL ls i m := by
              funext m
              rw [hnx]
              by_cases hm : m = ls.getD i 0
              · rw [if_pos hm, if_pos ⟨by omega, hm.symm⟩, hm]
              · rw [if_neg hm, if_neg (fun hh => hm hh.2.symm), List.append_nil]
            have hW2 : (tabA pre (fun l => symW (Q l) (symL ls i l)) (longL ls i)).set (18 + ls.getD i 0) (.own q 0 ((symL ls i (ls.getD i 0)).length + 1)) = tabA pre (fun m => symW (if m = ls.getD i 0 then q else Q m) (if m = ls.getD i 0 then symL ls i (ls.getD i 0) ++ [i] else symL ls i m)) (longL ls i) := by
              rw [tabA_set hpl (by omega)]
              congr 1
              funext m
              by_cases hm : m = ls.getD i 0
              · rw [if_pos hm, if_pos hm, if_pos hm, symW, if_neg (by simp), List.length_append]; rfl
              · rw [if_neg hm, if_neg hm, if_neg hm]
            rw [hW2, ← hR2] at a2
            have hW3 : (fun m => symW (if m = ls.getD i 0 then q else Q m) (if m = ls.getD i 0 then symL ls i (ls.getD i 0) ++ [i] else symL ls i m)) = fun m => symW (if m = ls.getD i 0 then q else Q m) (symL ls (i + 1) m) := by rw [hR2]
            rw [hW3] at a2 hW2
            have a3 := a2.lg (lg' := longL ls (i + 1))
            rw [hset_hset] at a3
            rw [hln] at a3
            have e12 := tabA_lg (W := fun m => symW (if m = ls.getD i 0 then q else Q m) (symL ls (i + 1) m)) (lg := longL ls i) hpl
            have e13 := tabA_len (W := fun m => symW (if m = ls.getD i 0 then q else Q m) (symL ls (i + 1) m)) (lg := longL ls i) hpl
            generalize hWW : (fun m => symW (if m = ls.getD i 0 then q else Q m) (symL ls (i + 1) m)) = W2 at *
            have e14 : ∀ v : Nat, setV (tabA pre W2 (longL ls i)) 34 [(.sc (.int .i64 ((v : Nat))))] = tabA pre W2 v := fun v => (setV_one (by rw [e13]; omega)).trans (tabA_setlg hpl v)
            have e8 : blkV (hset (hdel h1 (Q (ls.getD i 0))) q (.cells 3 false ((symL ls i (ls.getD i 0)).map (iv .i64) ++ [(.sc (.int .i64 ((i : Nat))))]))) j = some (60, tabA pre (fun l => symW (Q l) (symL ls i l)) (longL ls i)) := by
              have a5 := blkV_iff.2 a1
              rw [List.map_append] at a5
              exact a5
            rw [List.map_append] at a3
            have e9 : setV (tabA pre (fun l => symW (Q l) (symL ls i l)) (longL ls i)) (18 + ls.getD i 0) [.own q 0 ((symL ls i (ls.getD i 0)).length + 1)] = tabA pre W2 (longL ls i) := by
              rw [setV_one (by rw [e6]; omega), ← hW2]
            repeat (first | (simp (maxSteps := 1000000) only [↓reduceIte, go_sem, g6, g24, g25, g26, e1, e2, e3, e4, e5, e6, e7, e12, e13, e14, e8, e9]) | (simp (maxSteps := 1000000) (disch := first | omega | assumption) only [BB, g6, g24, g25, g26, e1, e2, e3, e4, e5, e6, e7, e12, e13, e14, e8, e9]) | with_reducible refine Gst.now ?_ | with_reducible refine vawp_draw mixed (by kernel_rfl) ?_ | with_reducible first | refine lwV_out ?_ | refine lwV_out0 ?_ | refine lkC_out ?_ | refine And.intro (by omega) ?_ | fail)
            try simp only [putV_s, putV_n]
            refine vopsT_1 14 (by kernel_rfl) rfl (by first | trivial | exact Nat.le_of_ble_eq_true rfl) rfl ?_
            repeat (first | (simp (maxSteps := 1000000) only [↓reduceIte, go_sem]) | (simp (maxSteps := 1000000) (disch := first | omega | assumption) only [BB]) | with_reducible refine Gst.now ?_ | with_reducible refine vawp_draw mixed (by kernel_rfl) ?_ | with_reducible first | refine lwV_out ?_ | refine lwV_out0 ?_ | refine lkC_out ?_ | refine And.intro (by omega) ?_ | fail)
            try simp only [putV_s, putV_n]
            try simp only [vopsT_0]
            repeat (first | (simp (maxSteps := 1000000) only [↓reduceIte, go_sem, g6, g24, g25, g26, e1, e2, e3, e4, e5, e6, e7, e12, e13, e14, e8, e9]) | (simp (maxSteps := 1000000) (disch := first | omega | assumption) only [BB, g6, g24, g25, g26, e1, e2, e3, e4, e5, e6, e7, e12, e13, e14, e8, e9]) | with_reducible refine Gst.now ?_ | with_reducible refine vawp_draw mixed (by kernel_rfl) ?_ | with_reducible first | refine lwV_out ?_ | refine lwV_out0 ?_ | refine lkC_out ?_ | refine And.intro (by omega) ?_ | fail)
            exact ⟨c - 1, by omega, i + 1, fun m => if m = ls.getD i 0 then q else Q m, by omega, rfl, by rw [hln]; exact a3⟩
          · repeat (first | (simp (maxSteps := 1000000) only [↓reduceIte, go_sem, g6, g24, g25, g26, e1, e2, e3, e4, e5, e6, e7]) | (simp (maxSteps := 1000000) (disch := first | omega | assumption) only [BB, g6, g24, g25, g26, e1, e2, e3, e4, e5, e6, e7]) | with_reducible refine Gst.now ?_ | with_reducible refine vawp_draw mixed (by kernel_rfl) ?_ | with_reducible first | refine lwV_out ?_ | refine lwV_out0 ?_ | refine lkC_out ?_ | refine And.intro (by omega) ?_ | fail)
            refine vBuildS_i bs22 ?_ ?_ ?_ ?_ ?_
            rfl
            rfl
            rfl
            rfl
            repeat (first | (simp (maxSteps := 1000000) only [↓reduceIte, go_sem]) | (simp (maxSteps := 1000000) (disch := first | omega | assumption) only [BB]) | with_reducible refine Gst.now ?_ | with_reducible refine vawp_draw mixed (by kernel_rfl) ?_ | with_reducible first | refine lwV_out ?_ | refine lwV_out0 ?_ | refine lkC_out ?_ | refine And.intro (by omega) ?_ | fail)
            refine ⟨by rw [e3]; rfl, ?_⟩
            try simp only [putV_s, putV_n]
            refine vopsT_1 7 (by kernel_rfl) rfl (by first | trivial | exact Nat.le_of_ble_eq_true rfl) rfl ?_
            repeat (first | (simp (maxSteps := 1000000) only [↓reduceIte, go_sem]) | (simp (maxSteps := 1000000) (disch := first | omega | assumption) only [BB]) | with_reducible refine Gst.now ?_ | with_reducible refine vawp_draw mixed (by kernel_rfl) ?_ | with_reducible first | refine lwV_out ?_ | refine lwV_out0 ?_ | refine lkC_out ?_ | refine And.intro (by omega) ?_ | fail)
            repeat (first | (simp (maxSteps := 1000000) only [↓reduceIte, go_sem, g6, g24, g25, g26, e1, e2, e3, e4, e5, e6, e7]) | (simp (maxSteps := 1000000) (disch := first | omega | assumption) only [BB, g6, g24, g25, g26, e1, e2, e3, e4, e5, e6, e7]) | with_reducible refine Gst.now ?_ | with_reducible refine vawp_draw mixed (by kernel_rfl) ?_ | with_reducible first | refine lwV_out ?_ | refine lwV_out0 ?_ | refine lkC_out ?_ | refine And.intro (by omega) ?_ | fail)
            try simp only [putV_s, putV_n]
            refine vopsT_1 10 (by kernel_rfl) rfl (by first | trivial | exact Nat.le_of_ble_eq_true rfl) rfl ?_
            repeat (first | (simp (maxSteps := 1000000) only [↓reduceIte, go_sem]) | (simp (maxSteps := 1000000) (disch := first | omega | assumption) only [BB]) | with_reducible refine Gst.now ?_ | with_reducible refine vawp_draw mixed (by kernel_rfl) ?_ | with_reducible first | refine lwV_out ?_ | refine lwV_out0 ?_ | refine lkC_out ?_ | refine And.intro (by omega) ?_ | fail)
            apply vApp_own_isl ap22 (by simp only [go_sem])
            case hv => first | (simp []; done) | (simp []; omega) | rfl | assumption
            case hj => repeat (first | exact hset_at _ _ _ | assumption | refine (hset_ne _ _ (by first | omega | assumption)).trans ?_ | refine (hdel_ne _ (by first | omega | assumption)).trans ?_ | fail)
            case hl => first | (simp []; done) | (simp []; omega) | rfl | assumption
            case h1 => first | omega | (simp []; omega) | (simp []; done)
            case h2 => first | omega | (simp []; omega) | (simp []; done)
            intro q hq1
            obtain ⟨a1, a2⟩ := SymT.app (s := i) hpl I (by omega) (.inr ⟨hr, hq1, rfl⟩)
            have hR2 : symL ls (i + 1) = fun m => if m = ls.getD i 0 then symL ls i (ls.getD i 0) ++ [i] else symL ls i m := by
              funext m
              rw [hnx]
              by_cases hm : m = ls.getD i 0
              · rw [if_pos hm, if_pos ⟨by omega, hm.symm⟩, hm]
              · rw [if_neg hm, if_neg (fun hh => hm hh.2.symm), List.append_nil]
            have hW2 : (tabA pre (fun l => symW (Q l) (symL ls i l)) (longL ls i)).set (18 + ls.getD i 0) (.own q 0 ((symL ls i (ls.getD i 0)).length + 1)) = tabA pre (fun m => symW (if m = ls.getD i 0 then q else Q m) (if m = ls.getD i 0 then symL ls i (ls.getD i 0) ++ [i] else symL ls i m)) (longL ls i) := by
              rw [tabA_set hpl (by omega)]
              congr 1
              funext m
              by_cases hm : m = ls.getD i 0
              · rw [if_pos hm, if_pos hm, if_pos hm, symW, if_neg (by simp), List.length_append]; rfl
              · rw [if_neg hm, if_neg hm, if_neg hm]
            rw [hW2, ← hR2] at a2
            have hW3 : (fun m => symW (if m = ls.getD i 0 then q else Q m) (if m = ls.getD i 0 then symL ls i (ls.getD i 0) ++ [i] else symL ls i m)) = fun m => symW (if m = ls.getD i 0 then q else Q m) (symL ls (i + 1) m) := by rw [hR2]
            rw [hW3] at a2 hW2
            have a3 := a2.lg (lg' := longL ls (i + 1))
            rw [hset_hset] at a3
            rw [hln] at a3
            have e12 := tabA_lg (W := fun m => symW (if m = ls.getD i 0 then q else Q m) (symL ls (i + 1) m)) (lg := longL ls i) hpl
            have e13 := tabA_len (W := fun m => symW (if m = ls.getD i 0 then q else Q m) (symL ls (i + 1) m)) (lg := longL ls i) hpl
            generalize hWW : (fun m => symW (if m = ls.getD i 0 then q else Q m) (symL ls (i + 1) m)) = W2 at *
            have e14 : ∀ v : Nat, setV (tabA pre W2 (longL ls i)) 34 [(.sc (.int .i64 ((v : Nat))))] = tabA pre W2 v := fun v => (setV_one (by rw [e13]; omega)).trans (tabA_setlg hpl v)
            have e8 : blkV (hset (hdel h1 (Q (ls.getD i 0))) q (.cells 3 false ((symL ls i (ls.getD i 0)).map (iv .i64) ++ [(.sc (.int .i64 ((i : Nat))))]))) j = some (60, tabA pre (fun l => symW (Q l) (symL ls i l)) (longL ls i)) := by
              have a5 := blkV_iff.2 a1
              rw [List.map_append] at a5
              exact a5
            rw [List.map_append] at a3
            have e9 : setV (tabA pre (fun l => symW (Q l) (symL ls i l)) (longL ls i)) (18 + ls.getD i 0) [.own q 0 ((symL ls i (ls.getD i 0)).length + 1)] = tabA pre W2 (longL ls i) := by
              rw [setV_one (by rw [e6]; omega), ← hW2]
            repeat (first | (simp (maxSteps := 1000000) only [↓reduceIte, go_sem, g6, g24, g25, g26, e1, e2, e3, e4, e5, e6, e7, e12, e13, e14, e8, e9]) | (simp (maxSteps := 1000000) (disch := first | omega | assumption) only [BB, g6, g24, g25, g26, e1, e2, e3, e4, e5, e6, e7, e12, e13, e14, e8, e9]) | with_reducible refine Gst.now ?_ | with_reducible refine vawp_draw mixed (by kernel_rfl) ?_ | with_reducible first | refine lwV_out ?_ | refine lwV_out0 ?_ | refine lkC_out ?_ | refine And.intro (by omega) ?_ | fail)
            try simp only [putV_s, putV_n]
            refine vopsT_1 14 (by kernel_rfl) rfl (by first | trivial | exact Nat.le_of_ble_eq_true rfl) rfl ?_
            repeat (first | (simp (maxSteps := 1000000) only [↓reduceIte, go_sem]) | (simp (maxSteps := 1000000) (disch := first | omega | assumption) only [BB]) | with_reducible refine Gst.now ?_ | with_reducible refine vawp_draw mixed (by kernel_rfl) ?_ | with_reducible first | refine lwV_out ?_ | refine lwV_out0 ?_ | refine lkC_out ?_ | refine And.intro (by omega) ?_ | fail)
            try simp only [putV_s, putV_n]
            try simp only [vopsT_0]
            repeat (first | (simp (maxSteps := 1000000) only [↓reduceIte, go_sem, g6, g24, g25, g26, e1, e2, e3, e4, e5, e6, e7, e12, e13, e14, e8, e9]) | (simp (maxSteps := 1000000) (disch := first | omega | assumption) only [BB, g6, g24, g25, g26, e1, e2, e3, e4, e5, e6, e7, e12, e13, e14, e8, e9]) | with_reducible refine Gst.now ?_ | with_reducible refine vawp_draw mixed (by kernel_rfl) ?_ | with_reducible first | refine lwV_out ?_ | refine lwV_out0 ?_ | refine lkC_out ?_ | refine And.intro (by omega) ?_ | fail)
            exact ⟨c - 1, by omega, i + 1, fun m => if m = ls.getD i 0 then q else Q m, by omega, rfl, by rw [hln]; exact a3⟩
      · have e2 := eq_false h0
        have hl0 : ls.getD i 0 = 0 := by omega
        have hsame : symL ls (i + 1) = symL ls i := by
          funext l
          rw [hnx, if_neg (by omega), List.append_nil]
        have hlg : longL ls (i + 1) = longL ls i := by rw [hln, if_neg (by omega)]
        repeat (first | (simp (maxSteps := 1000000) only [↓reduceIte, go_sem, g6, g24, g25, g26, e1, e2]) | (simp (maxSteps := 1000000) (disch := first | omega | assumption) only [BB, g6, g24, g25, g26, e1, e2]) | with_reducible refine Gst.now ?_ | with_reducible refine vawp_draw mixed (by kernel_rfl) ?_ | with_reducible first | refine lwV_out ?_ | refine lwV_out0 ?_ | refine lkC_out ?_ | refine And.intro (by omega) ?_ | fail)
        exact ⟨c - 1, by omega, i + 1, Q, by omega, rfl, by rw [hsame, hlg]; exact I⟩
    · have e1 := eq_false hi
      have hii : i = ls.length := by omega
      rw [hii] at I
      repeat (first | (simp (maxSteps := 1000000) only [↓reduceIte, go_sem, g6, g24, g25, g26, e1]) | (simp (maxSteps := 1000000) (disch := first | omega | assumption) only [BB, g6, g24, g25, g26, e1]) | with_reducible refine Gst.now ?_ | with_reducible refine vawp_draw mixed (by kernel_rfl) ?_ | with_reducible first | refine lwV_out ?_ | refine lwV_out0 ?_ | refine lkC_out ?_ | refine And.intro (by omega) ?_ | fail)
      refine hq _ _ ?_
      repeat (first | (simp (maxSteps := 1000000) only [↓reduceIte, go_sem, g6, g24, g25, g26, e1]) | (simp (maxSteps := 1000000) (disch := first | omega | assumption) only [BB, g6, g24, g25, g26, e1]) | with_reducible refine Gst.now ?_ | with_reducible refine vawp_draw mixed (by kernel_rfl) ?_ | with_reducible first | refine lwV_out ?_ | refine lwV_out0 ?_ | refine lkC_out ?_ | refine And.intro (by omega) ?_ | fail)
      refine SymT.frz hpl I ?_
      unfold tabC at hk
      rw [hpr] at hk
      exact hk
end
end Go.Proofs.Ytncicgfbnjneeaa.VNewB
