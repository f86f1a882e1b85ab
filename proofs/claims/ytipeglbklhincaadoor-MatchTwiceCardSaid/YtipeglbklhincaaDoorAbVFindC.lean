/- the finder of package match, over the machine of values: Find. -/
import Derived.Test.YtipeglbklhincaaDoorProg
import Derived.Test.YtipeglbklhincaaDoorAbV16
import Derived.Test.YtipeglbklhincaaDoorAbFacts
import Derived.Test.YtipeglbklhincaaDoorAbVG
import Derived.Test.YtipeglbklhincaaDoorAbVRow1
import Derived.Test.YtipeglbklhincaaDoorAbVSame
import Derived.Test.YtipeglbklhincaaDoorAbVMatch
import Derived.Test.YtipeglbklhincaaDoorAbVMatchB
import Derived.Test.YtipeglbklhincaaDoorAbVFind
import Derived.Test.YtipeglbklhincaaDoorAbVFindB
import Derived.Test.YtipeglbklhincaaDoorAbVFindP
import Derived.KernelRfl
import Derived.Laws.BitsAllLaws
set_option linter.unusedVariables false
set_option linter.unusedSimpArgs false
set_option maxRecDepth 100000
set_option maxHeartbeats 4000000
namespace Go.Proofs.YtipeglbklhincaaDoor.VFindC
open Go.RowKit Go.Proofs.AbM Go.Proofs.YtipeglbklhincaaDoor.Facts Go.Proofs.YtipeglbklhincaaDoor.VG Go.Proofs.YtipeglbklhincaaDoor.VRow1 Go.Proofs.YtipeglbklhincaaDoor.VSame Go.Proofs.YtipeglbklhincaaDoor.VMatch Go.Proofs.YtipeglbklhincaaDoor.VMatchB Go.Proofs.YtipeglbklhincaaDoor.VFind Go.Proofs.YtipeglbklhincaaDoor.VFindB Go.Proofs.YtipeglbklhincaaDoor.VFindP
attribute [local go_sem] vawp_skip_eq vawp_seq_eq vawp_region_eq vawp_cond_g vawp_block_eq vawp_exit_eq vawp_ret_eq thenV_ret thenV_exit thenV_normal inBlockV_normal inBlockV_ret inBlockV_exit resKV_nil resKV_tmp resKV_cell oneV_one oneV_nil oneV_more initV_nil initV_cons updV_at evv_tmp evv_func evv_global evv_int evv_bool evv_str evv_snil evv_pnil evv_agg ofV3_int ofV3_bool ofV3_str ofV3_snil ofV3_pnil vok_tmp vok_func vok_global vok_int vok_bool vok_str vok_snil vok_pnil vok_agg cloV3_int cloV3_bool cloV3_str cloV3_snil cloV3_pnil voks_nil voks_cons scV_int scV_bool scV_str isBlV_b isBV_t isBV_f lwV_none lwV_sc lwV_agg lwV_tup lwV_isl lwV_own lwV_op lwV_ip lwV_fn lwV_junk vops_nil vops_n vops_s gsN_eq vop dstOk_some dstOk_none pkV_b blkV_set eRead_f eRead_t vLoad_op vLoad_ip vStore_op cells_sc cells_isl cells_own cells_op cells_ip cells_fn cells_agg parts_sc parts_isl parts_own parts_op parts_ip parts_fn parts_agg one_sc one_isl one_own one_op one_ip one_fn vField_op vField_ip ePart_f ePart_t vFieldV_agg vIx_isl vIx_own vIx_op vIx_ip vIxV_agg vIxV_str vLen_str vLen_isl vLen_own vLen_agg bndE_none bndE_int vSlice_isl vSlice_str vBin_add vBin_sub vBin_mul vBin_quo vBin_rem vBin_and vBin_or vBin_xor vBin_andNot vBin_eql vBin_neq vBin_lss vBin_leq vBin_gtr vBin_geq vBin_shr_i8 vBin_shl_i8 vBin_shr_i16 vBin_shl_i16 vBin_shr_i32 vBin_shl_i32 vBin_shr_i64 vBin_shl_i64 vBin_shr_u8 vBin_shl_u8 vBin_shr_u16 vBin_shl_u16 vBin_shr_u32 vBin_shl_u32 vBin_shr_u64 vBin_shl_u64 vBin_seq vBin_sne vBin_isln vBin_opn vBin_ipn ex_sc ex_sc2 ex_sc3 ex_tup calleeV wSc_pb wSc_pi wSc_not wSc_neg wSc_com wSc_min2 wSc_max2 vfold_nil vfold_one vfold_cons vfill_nil vfill_e eFill_s vBuild vBox vAlloc setV_map setV_zs setV_zn setV_s hset_hset eConv_ss vConv_e iv_eq ivI_eq ex_get ex_getI set_iv set_ivI okNil isNilV isSlV hdel_at hset_at List.map_toArray List.map_cons List.map_nil List.nil_append List.cons_append List.append_nil List.toList_toArray List.getElem?_toArray List.getElem_toArray List.getElem_cons_zero List.getElem_cons_succ List.getElem?_cons_zero List.getElem?_cons_succ List.set_cons_zero List.set_cons_succ List.set_set List.length_cons List.length_nil List.length_set List.length_map List.all_cons List.all_nil List.drop_zero List.drop_succ_cons List.take_succ_cons List.take_zero List.flatMap_cons Bool.and_eq_true true_and and_true if_true if_false ite_true ite_false forall_eq' forall_eq exists_eq_left exists_eq_left' exists_eq' Value.bool.injEq Value.int.injEq Value.string.injEq Value.pointer.injEq Option.some.injEq AV.sc.injEq AV.op.injEq AV.ip.injEq AV.own.injEq AV.agg.injEq VB.cells.injEq VB.iter.injEq Prod.mk.injEq decide_eq_true_eq decide_eq_false_iff_not Nat.reduceEqDiff Nat.reduceLT Nat.reduceLeDiff Nat.reduceSub Nat.reduceBEq reduceIte Int.reduceLE Int.reduceLT Int.reduceToNat Int.reduceNeg Int.reduceEq Int.reduceNe Int.cast_ofNat_Int Nat.reduceMul Nat.reduceAdd Nat.reduceDiv Nat.reduceMod Nat.reducePow Int.reduceSub Int.reduceAdd Int.reduceMul Int.reducePow Option.isSome_some Option.isSome_none Option.bind_some Option.map_some Option.map_none Option.toList_some Option.toList_none true_or or_true or_false false_or Bool.not_true Bool.not_false Bool.not_eq_true Bool.false_eq_true Bool.not_not false_implies true_implies implies_true Nat.zero_add Nat.add_zero Nat.mul_one Bool.not_eq_true' Bool.true_eq_false Bool.and_true Bool.true_and Bool.and_false Bool.false_and Bool.or_true Bool.true_or Bool.or_false Bool.false_or Option.isNone_some Option.isNone_none Int.reduceBEq Int.reduceBNe beq_self_eq_true bne_self_eq_false beq_iff_eq not_false_eq_true not_true_eq_false Decidable.not_not bne_iff_ne ne_eq Int.toNat_natCast gt_lt ge_le c_add c_mul c_sub c_addn c_nadd c_muln c_nmul c_subn c_nsub c_divn c_modn c_div c_mod c_tdivn c_tmodn c_tdiv c_tmod c_pow c_nn c_beq c_beqn c_bne c_bnen wr64 wr32 wru64 wru32 wru16 wru8 c_if c_if1 c_if2 c_lt c_le c_eq c_ltn c_len c_nlt c_nle c_eqn m_drop m_take Nat.add_sub_cancel_left Nat.add_sub_cancel Int.reduceTMod Int.reduceTDiv Int.reduceMod Int.reduceDiv isC_some hset_ne hdel_ne hdel_hset hdel_hset_ne blkV_nset blkV_ndel hset_hdel gV_t gV_f isGdV_b isGdV_u isBV_u isGdV_g isBV_gt isBV_gf decide_true decide_false Bool.or_eq_false_iff eq_self Nat.lt_irrefl Int.lt_irrefl Nat.le_refl Int.le_refl
attribute [local go_sem high] vops_pk vops_mv vops_as vops_smv pk_and pk_or pk_gand pk_gor pk_orn pk_gorn
attribute [local go_sem] ag3 sz3 zc3 ik3 ag4 sz4 zc4 ag5 sz5 zc5 ik5 ag9 sz9 zc9 iq9 ag22 sz22 el22 zc22 is22 ag23 sz23 el23 zc23 is23 ag25 sz25 zc25 ik25 ag41 sz41 zc41 eqs41 nes41 bo41 ag44 sz44 zc44 pt44 ag45 sz45 ea45 an45 zc45 bo45 ag46 sz46 el46 zc46 is46 ag47 sz47 ea47 an47 ag49 sz49 ag55 sz55 zc55 ik55 of41_0 fd41_0 of41_1 fd41_1 of41_2 fd41_2 of49_0 fd49_0 of49_1 fd49_1 of49_2 fd49_2 of49_3 fd49_3 eqb neb
section
variable {n : Nat} {h : VH} {K : AV → VH → Prop}
attribute [local go_sem] Nat.zero_le tokC tok_len GL_chains
theorem note_s {j q : Nat} {nl : Bool} {b : List Nat} {F : List AV} {s : StF} {i d m : Nat} (hf : blkV h j = some (49, F)) (hp : blkV h q = some (3, s.2.map (iv .i64))) (hjq : j ≠ q) (fp : FinP F nl b d q s.1) (I : Inv b m s) (hb : b.length ≤ 1000000) (h8 : ∀ x ∈ b, x < 256) (hi : i ≤ b.length)
    (hK : ∀ h' F' s', s' = noteS b i s → blkV h' j = some (49, F') → blkV h' q = some (3, s'.2.map (iv .i64)) → FinP F' nl b d q s'.1 → (∀ x, x ≠ j → x ≠ q → h' x = h x) → K (.tup []) h') : VC Tryd.prog GL (n + 2) 21 [.op j 0, (.sc (.int .i64 ((i : Nat))))] h K := by
  obtain ⟨hl, f0, f1, f3, fx⟩ := fp
  have hc0 : isC (h q) = true := by rw [blkV_iff.1 hp]; rfl
  refine note_g hf hp hc0 hjq f0 (by rw [I.len]; exact f3) fx hl I.len hb h8 hi (fun hh => ?_) (fun hh x hx => ?_)
  · exact hK h F s (if_pos hh).symm hf hp ⟨hl, f0, f1, f3, fx⟩ fun _ _ _ => rfl
  · have hx4 : x < 4096 := by rw [hx]; exact hashN_lt b i
    refine hK _ (F.set (2 + x) (.sc (.int .i64 ((i + 1 : Nat))))) (upN s.1 x (i + 1), s.2.set i (s.1 x)) ?_ (blkV_iff.2 (hset_at _ _ _)) ?_ ⟨by simpa using hl, ?_, ?_, ?_, ?_⟩ ?_
    · unfold noteS
      rw [if_neg (by omega), hx]
    · exact blkV_iff.2 ((hset_ne _ _ (Ne.symm hjq)).trans (hset_at _ _ _))
    · rw [List.getElem?_set_ne (by omega)]; exact f0
    · rw [List.getElem?_set_ne (by omega)]; exact f1
    · rw [List.getElem?_set_ne (by omega)]; exact f3
    · intro y hy
      by_cases hxy : x = y
      · subst hxy
        rw [List.getElem?_set_self (by omega)]
        show _ = some (AV.sc (.int .i64 (upN s.1 x (i + 1) x : Nat)))
        unfold upN
        rw [if_pos rfl]
      · rw [List.getElem?_set_ne (by omega)]
        show _ = some (AV.sc (.int .i64 (upN s.1 x (i + 1) y : Nat)))
        unfold upN
        rw [if_neg (by omega)]
        exact fx y hy
    · intro y h1 h2
      exact (hset_ne _ _ h1).trans (hset_ne _ _ h2)
theorem best_s {j q : Nat} {nl : Bool} {b : List Nat} {F : List AV} {s : StF} {at_ d : Nat} (hf : blkV h j = some (49, F)) (hp : blkV h q = some (3, s.2.map (iv .i64))) (fp : FinP F nl b d q s.1) (I : Inv b at_ s) (hb : b.length ≤ 1000000) (h8 : ∀ x ∈ b, x < 256) (hat : at_ ≤ b.length) (hd : d ≤ 1024) (hK : ∀ m k, (m, k) = bestF b at_ s.1 s.2 d → K (.tup [(.sc (.int .i64 ((m : Nat)))), (.sc (.int .i64 ((k : Nat))))]) h) : VC Tryd.prog GL (n + 2) 20 [.op j 0, (.sc (.int .i64 ((at_ : Nat))))] h K :=
  best_g hf hp fp I.len hb h8 hat (fun x _ => I.hs x) I.ps hd hK
theorem later_s {j q : Nat} {nl : Bool} {b : List Nat} {F : List AV} {s : StF} {at_ d m : Nat} {v : Bool} (hv : v = laterF b at_ m s.1 s.2 d) (hf : blkV h j = some (49, F)) (hp : blkV h q = some (3, s.2.map (iv .i64))) (fp : FinP F nl b d q s.1) (I : Inv b (at_ + 1) s) (hb : b.length ≤ 1000000) (h8 : ∀ x ∈ b, x < 256) (hat : at_ < b.length) (hd : d ≤ 1024) (hm : m ≤ 1000000) (hK : K (.sc (.bool (v))) h) : VC Tryd.prog GL (n + 3) 22 [.op j 0, (.sc (.int .i64 ((at_ : Nat)))), (.sc (.int .i64 ((m : Nat))))] h K :=
  later_g hf hp fp I.len hb h8 hat (fun x _ => I.hs x) I.ps hd hm fun v' hv' => by rw [hv', ← hv]; exact hK
/-- the tokens so far: none, or an own row; beside the finder and its row -/
def OutT (h0 : VH) (j q : Nat) (out : List TokV) (v : AV) (h1 : VH) : Prop := (out = [] ∧ v = .isl true 0 [] ∧ ∀ i, i ≠ j → i ≠ q → h1 i = h0 i) ∨ ∃ o, o ≠ j ∧ o ≠ q ∧ h0 o = none ∧ v = .own o 0 out.length ∧ h1 o = some (.cells 41 false (out.flatMap tokC)) ∧ ∀ i, i ≠ j → i ≠ q → i ≠ o → h1 i = h0 i
theorem OutT.mono {h0 h1 h2 : VH} {j q : Nat} {out : List TokV} {v : AV} (hO : OutT h0 j q out v h1) (h12 : ∀ x, x ≠ j → x ≠ q → h2 x = h1 x) : OutT h0 j q out v h2 := by
  rcases hO with ⟨a, b, c⟩ | ⟨o, a1, a2, a3, a4, a5, a6⟩
  · exact .inl ⟨a, b, fun i hj hq => (h12 i hj hq).trans (c i hj hq)⟩
  · exact .inr ⟨o, a1, a2, a3, a4, (h12 o a1 a2).trans a5, fun i hj hq ho => (h12 i hj hq).trans (a6 i hj hq ho)⟩
def chD (level : Int) : Nat := chainN.getD (min (max level 0) 9).toNat 0
theorem chD_le (level : Int) : chD level ≤ 1024 := by
  unfold chD
  have h9 : (min (max level 0) 9).toNat < 10 := by omega
  generalize (min (max level 0) 9).toNat = x at *
  exact (by decide : ∀ x, x < 10 → chainN.getD x 0 ≤ 1024) x h9

theorem OutT.app {h0 h1 : VH} {j q : Nat} {out : List TokV} {t : TokV} {o o' : Nat} (o1 : o ≠ j) (o2 : o ≠ q) (o3 : h0 o = none) (o6 : ∀ i, i ≠ j → i ≠ q → i ≠ o → h1 i = h0 i) (hj : h1 j ≠ none) (hq : h1 q ≠ none) (ho' : hdel h1 o o' = none) : OutT h0 j q (out ++ [t]) (.own o' 0 (out.length + 1)) (hset (hdel h1 o) o' (.cells 41 false ((out ++ [t]).flatMap tokC))) ∧ hset (hdel h1 o) o' (.cells 41 false ((out ++ [t]).flatMap tokC)) j = h1 j ∧ hset (hdel h1 o) o' (.cells 41 false ((out ++ [t]).flatMap tokC)) q = h1 q := by
  have d1 : o' ≠ j := fun hh => hj (by rw [hh, hdel_ne _ (Ne.symm o1)] at ho'; exact ho')
  have d2 : o' ≠ q := fun hh => hq (by rw [hh, hdel_ne _ (Ne.symm o2)] at ho'; exact ho')
  have d3 : h0 o' = none := by
    by_cases hoo : o' = o
    · rw [hoo]; exact o3
    · rw [hdel_ne _ hoo, o6 o' d1 d2 hoo] at ho'; exact ho'
  refine ⟨.inr ⟨o', d1, d2, d3, by rw [List.length_append]; rfl, hset_at _ _ _, fun i hi1 hi2 hi3 => ?_⟩, ?_, ?_⟩
  · rw [hset_ne _ _ hi3]
    by_cases hoo : i = o
    · rw [hoo, o3]; exact hdel_at _ _
    · rw [hdel_ne _ hoo, o6 i hi1 hi2 hoo]
  · rw [hset_ne _ _ (Ne.symm d1), hdel_ne _ (Ne.symm o1)]
  · rw [hset_ne _ _ (Ne.symm d2), hdel_ne _ (Ne.symm o2)]
theorem OutT.app0 {h0 h1 : VH} {j q : Nat} {t : TokV} {o : Nat} (hO : ∀ i, i ≠ j → i ≠ q → h1 i = h0 i) (hj : h1 j ≠ none) (hq : h1 q ≠ none) (ho : h1 o = none) : OutT h0 j q [t] (.own o 0 1) (hset h1 o (.cells 41 false ([t].flatMap tokC))) ∧ hset h1 o (.cells 41 false ([t].flatMap tokC)) j = h1 j ∧ hset h1 o (.cells 41 false ([t].flatMap tokC)) q = h1 q := by
  have d1 : o ≠ j := fun hh => hj (by rw [← hh]; exact ho)
  have d2 : o ≠ q := fun hh => hq (by rw [← hh]; exact ho)
  refine ⟨.inr ⟨o, d1, d2, (hO o d1 d2).symm.trans ho, rfl, hset_at _ _ _, fun i hi1 hi2 hi3 => ?_⟩, ?_, ?_⟩
  · rw [hset_ne _ _ hi3]; exact hO i hi1 hi2
  · rw [hset_ne _ _ (Ne.symm d1)]
  · rw [hset_ne _ _ (Ne.symm d2)]
theorem blkV_ne {h : VH} {j : Nat} {p : TypeId × List AV} (hb : blkV h j = some p) : h j ≠ none := by rw [blkV_iff.1 hb]; exact fun hh => nomatch hh
theorem flat_snoc (out : List TokV) (t : TokV) : (out ++ [t]).flatMap tokC = out.flatMap tokC ++ tokC t := by simp
theorem blkV_eq {h h' : VH} {j : Nat} {p : TypeId × List AV} (hb : blkV h j = some p) (he : h' j = h j) : blkV h' j = some p := by unfold blkV at *; rw [he]; exact hb
theorem findL_fuel {b : List Nat} {d : Nat} : ∀ (f f' at_ : Nat) (s : StF), b.length ≤ at_ + f → b.length ≤ at_ + f' → findL b d f at_ s = findL b d f' at_ s
  | 0, 0, _, _, _, _ => rfl
  | 0, f' + 1, at_, s, h1, _ => by rw [findL, findL, if_pos (by omega)]
  | f + 1, 0, at_, s, _, h2 => by rw [findL, findL, if_pos (by omega)]
  | f + 1, f' + 1, at_, s, h1, h2 => by
    rw [findL, findL]
    split
    · rfl
    · split
      · rw [findL_fuel f f' (at_ + 1) _ (by omega) (by omega)]
      · rename_i hl
        have : ¬ (bestF b at_ s.1 s.2 d).1 = 0 := fun hh => hl (.inl hh)
        rw [findL_fuel f f' (at_ + (bestF b at_ s.1 s.2 d).1) _ (by omega) (by omega)]
theorem find_v {nl : Bool} {l : Nat} {b : List Nat} {level : Int} (hl : l = b.length) (hb : b.length ≤ 1000000) (h8 : ∀ x ∈ b, x < 256) (hK : ∀ nl', K (.isl nl' (findF b (chD level)).length ((findF b (chD level)).flatMap tokC)) h) : VC Tryd.prog GL (n + 4) 16 [.isl nl l (b.map (iv .u8)), (.sc (.int .i64 (level)))] h K := by
  refine VC_go Tryd.func16 rfl (by decide) Tryd.ntmps16 Tryd.results16 rfl fun Q hq hn => ?_
  subst hl
  obtain ⟨lv, hlv, hlv9⟩ : ∃ lv : Nat, min (max level 0) 9 = (lv : Int) ∧ lv < 10 := ⟨(min (max level 0) 9).toNat, by omega, by omega⟩
  have hdd : chD level = chainN.getD lv 0 := by unfold chD; rw [hlv]; rfl
  have hd4 := chD_le level
  generalize chD level = dd at *
  have e1 : (if 9 < (if level < 0 then 0 else level) then 9 else (if level < 0 then 0 else level)) = (lv : Int) := by rw [← hlv]; omega
  have e2 := eq_true hlv9
  have e3 : (chainN.map (iv .i64))[lv]? = some (.sc (.int .i64 ((dd : Nat)))) := by
    rw [hdd, List.getElem?_map, List.getElem?_eq_getElem (by exact hlv9), List.getD_eq_getElem?_getD, List.getElem?_eq_getElem (by exact hlv9)]
    rfl
  repeat (first | (simp (maxSteps := 1000000) only [↓reduceIte, go_sem, e1, e2, e3]) | (simp (maxSteps := 1000000) (disch := first | omega | assumption) only [BB, e1, e2, e3]) | with_reducible refine Gst.now ?_ | with_reducible first | refine lwV_out ?_ | refine lwV_out0 ?_ | refine lkC_out ?_ | refine And.intro (by omega) ?_ | fail)
  refine vawp_split [0, 1, 2, 3, 4, 5, 6, 7] [8, 9, 10, 11] (fun _ => True) mixed (by kernel_rfl) ?_ ?_
  · trivial
  · simp only [pickO_cons, pickO_nil, List.getElem?_toArray, List.getElem?_cons_zero, List.getElem?_cons_succ]
    repeat (first | (apply vopsP_n; (case hd => rfl); (case hq => (intro h' K' hI' hk'; repeat (first | simp (maxSteps := 4000000) (disch := first | omega | assumption) only [↓reduceIte, go_sem, hI', e1, e2, e3] | with_reducible refine Gst.now ?_ | with_reducible refine vawp_draw mixed (by kernel_rfl) ?_ | with_reducible first | refine lwV_out ?_ | refine lwV_out0 ?_ | refine lkC_out ?_ | refine And.intro (by omega) ?_ | fail); exact hk'))) | fail)
    simp only [vopsP_nil]
    first | (apply vopsI_n; (case hd => rfl)) | apply vopsI_0
    repeat (first | (simp (maxSteps := 1000000) only [↓reduceIte, go_sem, e1, e2, e3]) | (simp (maxSteps := 1000000) (disch := first | omega | assumption) only [BB, e1, e2, e3]) | with_reducible refine Gst.now ?_ | with_reducible refine vawp_draw mixed (by kernel_rfl) ?_ | with_reducible first | refine lwV_out ?_ | refine lwV_out0 ?_ | refine lkC_out ?_ | refine And.intro (by omega) ?_ | fail)
    refine vMake_1 mk46 (by omega) (by omega) fun q hq0 => ?_
    first | (apply vopsI_n; (case hd => rfl)) | apply vopsI_0
    repeat (first | (simp (maxSteps := 1000000) only [↓reduceIte, go_sem, e1, e2, e3]) | (simp (maxSteps := 1000000) (disch := first | omega | assumption) only [BB, e1, e2, e3]) | with_reducible refine Gst.now ?_ | with_reducible refine vawp_draw mixed (by kernel_rfl) ?_ | with_reducible first | refine lwV_out ?_ | refine lwV_out0 ?_ | refine lkC_out ?_ | refine And.intro (by omega) ?_ | fail)
    refine vb49 (b := .isl nl b.length (b.map (iv .u8))) (p := .own q 0 b.length) (d := (dd : Nat)) rfl rfl ?_
    first | (apply vopsI_n; (case hd => rfl)) | apply vopsI_0
    repeat (first | (simp (maxSteps := 1000000) only [↓reduceIte, go_sem, e1, e2, e3]) | (simp (maxSteps := 1000000) (disch := first | omega | assumption) only [BB, e1, e2, e3]) | with_reducible refine Gst.now ?_ | with_reducible refine vawp_draw mixed (by kernel_rfl) ?_ | with_reducible first | refine lwV_out ?_ | refine lwV_out0 ?_ | refine lkC_out ?_ | refine And.intro (by omega) ?_ | fail)
    refine ⟨by simp, by simp [AV.one], fun j hj => ?_⟩
    try simp (disch := first | omega | assumption) only [go_sem, hset_none, hdel_none] at hj
    try simp (disch := first | omega | assumption) only [hset_none, hdel_none] at hj
    obtain ⟨hjq, hj0⟩ := hj
    first | (apply vopsI_n; (case hd => rfl)) | apply vopsI_0
    repeat (first | (simp (maxSteps := 1000000) only [↓reduceIte, go_sem, e1, e2, e3]) | (simp (maxSteps := 1000000) (disch := first | omega | assumption) only [BB, e1, e2, e3]) | with_reducible refine Gst.now ?_ | with_reducible refine vawp_draw mixed (by kernel_rfl) ?_ | with_reducible first | refine lwV_out ?_ | refine lwV_out0 ?_ | refine lkC_out ?_ | refine And.intro (by omega) ?_ | fail)
    simp only [vopsI_nil]
    generalize hF : (AV.isl nl b.length (b.map (iv .u8)) :: (.sc (.int .i64 ((dd : Nat)))) :: (List.replicate 4096 (.sc (.int .i64 (0))) ++ [AV.own q 0 b.length])) = F
    have hfp : FinP F nl b dd q (st0 b.length).1 := by
      subst hF
      refine ⟨by simp, rfl, rfl, ?_, fun x hx => ?_⟩
      · simp only [List.getElem?_cons_succ]
        rw [List.getElem?_append_right (by simp)]
        simp
      · rw [Nat.add_comm]
        simp only [List.getElem?_cons_succ]
        rw [List.getElem?_append_left (by simpa using hx), List.getElem?_replicate, if_pos hx]
        rfl
    repeat (first | (simp (maxSteps := 1000000) only [↓reduceIte, go_sem, e1, e2, e3]) | (simp (maxSteps := 1000000) (disch := first | omega | assumption) only [BB, e1, e2, e3]) | with_reducible refine Gst.now ?_ | with_reducible refine vawp_draw mixed (by kernel_rfl) ?_ | with_reducible first | refine lwV_out ?_ | refine lwV_out0 ?_ | refine lkC_out ?_ | refine And.intro (by omega) ?_ | fail)
    refine vawp_loop (k := b.length) (fun c ρ h1 => ∃ (s : StF) (F : List AV) (out : List TokV) (at_ : Nat), c + at_ = b.length ∧ ρ 0 = .isl nl b.length (b.map (iv .u8)) ∧ ρ 5 = .op j 0 ∧ ρ 7 = (.sc (.int .i64 ((at_ : Nat)))) ∧ findF b dd = out ++ findL b dd c at_ s ∧ out.length ≤ at_ ∧ Inv b at_ s ∧ FinP F nl b dd q s.1 ∧ blkV h1 j = some (49, F) ∧ blkV h1 q = some (3, s.2.map (iv .i64)) ∧ OutT h j q out (ρ 6) h1) ?_ ?_
    · refine ⟨st0 b.length, F, [], 0, by omega, ?_⟩
      repeat (first | (simp (maxSteps := 1000000) only [↓reduceIte, go_sem, e1, e2, e3]) | (simp (maxSteps := 1000000) (disch := first | omega | assumption) only [BB, e1, e2, e3]) | with_reducible refine Gst.now ?_ | with_reducible refine vawp_draw mixed (by kernel_rfl) ?_ | with_reducible first | refine lwV_out ?_ | refine lwV_out0 ?_ | refine lkC_out ?_ | refine And.intro (by omega) ?_ | fail)
      refine ⟨rfl, Inv.st0 b, hfp, ?_, .inl ⟨rfl, rfl, ?_⟩⟩
      · rw [show (st0 b.length).2 = List.replicate b.length 0 from rfl, List.map_replicate]
        rfl
      · intro i h1 h2
        exact (hset_ne _ _ h1).trans (hset_ne _ _ h2)
    · rintro c ρ h1 ⟨s, F, out, at_, hc, g0, g5, g7, hfind, hol, I, fp, hbj, hbq, hO⟩
      by_cases hat : at_ < b.length
      · have e4 := eq_true hat
        obtain ⟨c, rfl⟩ : ∃ c', c = c' + 1 := ⟨c - 1, by omega⟩
        rw [findL, if_neg (by omega)] at hfind
        have hbo := bestF_ok (b := b) (d := dd) I.hs I.ps
        have hble := hbo.1.le (by omega)
        repeat (first | (simp (maxSteps := 1000000) only [↓reduceIte, go_sem, e1, e2, e3, g0, g5, g7, e4]) | (simp (maxSteps := 1000000) (disch := first | omega | assumption) only [BB, e1, e2, e3, g0, g5, g7, e4]) | with_reducible refine Gst.now ?_ | with_reducible refine vawp_draw mixed (by kernel_rfl) ?_ | with_reducible first | refine lwV_out ?_ | refine lwV_out0 ?_ | refine lkC_out ?_ | refine And.intro (by omega) ?_ | fail)
        refine call_ok (best_s hbj hbq fp I hb h8 (by omega) hd4 fun m k hmk => ?_)
        rw [← hmk] at hfind hbo hble
        have hb3 := hbo.2
        simp only at hfind hb3 hble
        repeat (first | (simp (maxSteps := 1000000) only [↓reduceIte, go_sem, e1, e2, e3, g0, g5, g7, e4]) | (simp (maxSteps := 1000000) (disch := first | omega | assumption) only [BB, e1, e2, e3, g0, g5, g7, e4]) | with_reducible refine Gst.now ?_ | with_reducible refine vawp_draw mixed (by kernel_rfl) ?_ | with_reducible first | refine lwV_out ?_ | refine lwV_out0 ?_ | refine lkC_out ?_ | refine And.intro (by omega) ?_ | fail)
        refine call_ok (note_s hbj hbq hjq fp I hb h8 (by omega) fun h2 F1 s1 hs1 hbj hbq fp1 h21 => ?_)
        rw [← hs1] at hfind
        have hO := hO.mono h21
        have I1 : Inv b (at_ + 1) s1 := hs1 ▸ I.note
        obtain ⟨hl1, f0, f1, f3, fx⟩ := fp1
        have e5 := f1
        have e6 := hbj
        obtain ⟨v, hv⟩ : ∃ v, v = laterF b at_ m s1.1 s1.2 dd := ⟨_, rfl⟩
        repeat (first | (simp (maxSteps := 1000000) only [↓reduceIte, go_sem, e1, e2, e3, g0, g5, g7, e4, e5, e6]) | (simp (maxSteps := 1000000) (disch := first | omega | assumption) only [BB, e1, e2, e3, g0, g5, g7, e4, e5, e6]) | with_reducible refine vawp_draw mixed (by kernel_rfl) ?_ | with_reducible first | refine lwV_out ?_ | refine lwV_out0 ?_ | refine lkC_out ?_ | refine And.intro (by omega) ?_ | fail)
        first | (with_reducible refine Gst.now ?_) | (with_reducible refine lkC_out ?_; simp only [vawp_skip_eq, thenV_normal]; with_reducible refine Gst.now ?_) | (with_reducible refine lkC_out ?_)
        try simp only [vawp_seq_eq, vawp_block_eq]
        with_reducible refine vawp_regq ?_
        simp only [List.toList_toArray]
        repeat (first | (apply vopsQ_pk; (case hd => rfl); (case h1 => simp (disch := first | omega | assumption) only [↓reduceIte, go_sem, e1, e2, e3, g0, g5, g7, e4, e5, e6]); (case h2 => simp (disch := first | omega | assumption) only [↓reduceIte, go_sem, e1, e2, e3, g0, g5, g7, e4, e5, e6]); (case h3 => simp (disch := first | omega | assumption) only [↓reduceIte, go_sem, e1, e2, e3, g0, g5, g7, e4, e5, e6]); (case hb => simp (disch := first | omega | assumption) only [↓reduceIte, go_sem, e1, e2, e3, g0, g5, g7, e4, e5, e6]); (try simp (disch := first | omega | assumption) only [↓reduceIte, go_sem, e1, e2, e3, g0, g5, g7, e4, e5, e6])) | (apply vopsQ_n; (case hd => rfl); (case hq => (intro K' hk'; repeat (first | simp (maxSteps := 4000000) (disch := first | omega | assumption) only [↓reduceIte, go_sem, e1, e2, e3, g0, g5, g7, e4, e5, e6] | with_reducible refine Gst.now ?_ | with_reducible refine vawp_draw mixed (by kernel_rfl) ?_ | with_reducible first | refine lwV_out ?_ | refine lwV_out0 ?_ | refine lkC_out ?_ | refine And.intro (by omega) ?_ | fail); exact hk'))) | (apply vopsQ_gt; (case hd => rfl); (case h1 => rfl); (case h2 => rfl); (case h3 => simp (disch := first | omega | assumption) only [↓reduceIte, go_sem]); (case hq => (intro K' hk'; repeat (first | simp (maxSteps := 4000000) (disch := first | omega | assumption) only [↓reduceIte, go_sem, e1, e2, e3, g0, g5, g7, e4, e5, e6] | with_reducible refine Gst.now ?_ | with_reducible refine vawp_draw mixed (by kernel_rfl) ?_ | with_reducible first | refine lwV_out ?_ | refine lwV_out0 ?_ | refine lkC_out ?_ | refine And.intro (by omega) ?_ | fail); exact hk'))) | (apply vopsQ_gf'; (case hd => rfl); (case h1 => rfl); (case h2 => rfl); (case h3 => simp (disch := first | omega | assumption) only [↓reduceIte, go_sem, e1, e2, e3, g0, g5, g7, e4, e5, e6])) | (apply vopsQ_gj; (case hd => rfl); (case h1 => rfl); (case h2 => rfl); (case h3 => simp (disch := first | omega | assumption) only [↓reduceIte, go_sem, e1, e2, e3, g0, g5, g7, e4, e5, e6])) | (apply vopsQ_gpk; (case hd => rfl); (case h1 => rfl); (case h2 => rfl); (case h3 => simp (disch := first | omega | assumption) only [↓reduceIte, go_sem, e1, e2, e3, g0, g5, g7, e4, e5, e6]); (case k1 => simp (disch := first | omega | assumption) only [↓reduceIte, go_sem, e1, e2, e3, g0, g5, g7, e4, e5, e6]); (case k2 => simp (disch := first | omega | assumption) only [↓reduceIte, go_sem, e1, e2, e3, g0, g5, g7, e4, e5, e6]); (case k3 => simp (disch := first | omega | assumption) only [↓reduceIte, go_sem, e1, e2, e3, g0, g5, g7, e4, e5, e6]); (case hb => (intro hc; (try simp (disch := first | omega | assumption) only [↓reduceIte, go_sem, e1, e2, e3, g0, g5, g7, e4, e5, e6] at hc); simp (disch := first | omega | assumption) only [↓reduceIte, go_sem, hc, e1, e2, e3, g0, g5, g7, e4, e5, e6])); (try simp (disch := first | omega | assumption) only [↓reduceIte, go_sem, e1, e2, e3, g0, g5, g7, e4, e5, e6])) | (apply vopsQ_gu; (case hd => rfl); (case h1 => rfl); (case h2 => rfl); (case h3 => simp (disch := first | omega | assumption) only [↓reduceIte, go_sem, e1, e2, e3, g0, g5, g7, e4, e5, e6]); (case hq => (intro hc K' hk'; (try simp (disch := first | omega | assumption) only [↓reduceIte, go_sem, e1, e2, e3, g0, g5, g7, e4, e5, e6] at hc); repeat (first | simp (maxSteps := 4000000) (disch := first | omega | assumption) only [↓reduceIte, go_sem, hc, e1, e2, e3, g0, g5, g7, e4, e5, e6] | with_reducible refine Gst.now ?_ | with_reducible refine vawp_draw mixed (by kernel_rfl) ?_ | with_reducible first | refine lwV_out ?_ | refine lwV_out0 ?_ | refine lkC_out ?_ | refine And.intro (by omega) ?_ | fail); exact hk')); (try simp (disch := first | omega | assumption) only [↓reduceIte, go_sem, e1, e2, e3, g0, g5, g7, e4, e5, e6])) | fail)
        apply vopsQ_gu; (case hd => rfl); (case h1 => rfl); (case h2 => rfl); (case h3 => simp (disch := first | omega | assumption) only [↓reduceIte, go_sem])
        case hq => (intro hc K' hk'; (try simp (disch := first | omega | assumption) only [↓reduceIte, go_sem] at hc); repeat (first | simp (maxSteps := 4000000) (disch := first | omega | assumption) only [↓reduceIte, go_sem, hc] | with_reducible refine Gst.now ?_ | with_reducible refine vawp_draw mixed (by kernel_rfl) ?_ | with_reducible first | refine lwV_out ?_ | refine lwV_out0 ?_ | refine lkC_out ?_ | refine And.intro (by omega) ?_ | fail); refine call_ok ?_; refine later_s hv hbj hbq ⟨hl1, f0, f1, f3, fx⟩ I1 hb h8 hat hd4 (by omega) ?_; exact hk')
        (try simp (disch := first | omega | assumption) only [↓reduceIte, go_sem])
        repeat (first | (apply vopsQ_pk; (case hd => rfl); (case h1 => simp (disch := first | omega | assumption) only [↓reduceIte, go_sem, e1, e2, e3, g0, g5, g7, e4, e5, e6]); (case h2 => simp (disch := first | omega | assumption) only [↓reduceIte, go_sem, e1, e2, e3, g0, g5, g7, e4, e5, e6]); (case h3 => simp (disch := first | omega | assumption) only [↓reduceIte, go_sem, e1, e2, e3, g0, g5, g7, e4, e5, e6]); (case hb => simp (disch := first | omega | assumption) only [↓reduceIte, go_sem, e1, e2, e3, g0, g5, g7, e4, e5, e6]); (try simp (disch := first | omega | assumption) only [↓reduceIte, go_sem, e1, e2, e3, g0, g5, g7, e4, e5, e6])) | (apply vopsQ_n; (case hd => rfl); (case hq => (intro K' hk'; repeat (first | simp (maxSteps := 4000000) (disch := first | omega | assumption) only [↓reduceIte, go_sem, e1, e2, e3, g0, g5, g7, e4, e5, e6] | with_reducible refine Gst.now ?_ | with_reducible refine vawp_draw mixed (by kernel_rfl) ?_ | with_reducible first | refine lwV_out ?_ | refine lwV_out0 ?_ | refine lkC_out ?_ | refine And.intro (by omega) ?_ | fail); exact hk'))) | (apply vopsQ_gt; (case hd => rfl); (case h1 => rfl); (case h2 => rfl); (case h3 => simp (disch := first | omega | assumption) only [↓reduceIte, go_sem]); (case hq => (intro K' hk'; repeat (first | simp (maxSteps := 4000000) (disch := first | omega | assumption) only [↓reduceIte, go_sem, e1, e2, e3, g0, g5, g7, e4, e5, e6] | with_reducible refine Gst.now ?_ | with_reducible refine vawp_draw mixed (by kernel_rfl) ?_ | with_reducible first | refine lwV_out ?_ | refine lwV_out0 ?_ | refine lkC_out ?_ | refine And.intro (by omega) ?_ | fail); exact hk'))) | (apply vopsQ_gf'; (case hd => rfl); (case h1 => rfl); (case h2 => rfl); (case h3 => simp (disch := first | omega | assumption) only [↓reduceIte, go_sem, e1, e2, e3, g0, g5, g7, e4, e5, e6])) | (apply vopsQ_gj; (case hd => rfl); (case h1 => rfl); (case h2 => rfl); (case h3 => simp (disch := first | omega | assumption) only [↓reduceIte, go_sem, e1, e2, e3, g0, g5, g7, e4, e5, e6])) | (apply vopsQ_gpk; (case hd => rfl); (case h1 => rfl); (case h2 => rfl); (case h3 => simp (disch := first | omega | assumption) only [↓reduceIte, go_sem, e1, e2, e3, g0, g5, g7, e4, e5, e6]); (case k1 => simp (disch := first | omega | assumption) only [↓reduceIte, go_sem, e1, e2, e3, g0, g5, g7, e4, e5, e6]); (case k2 => simp (disch := first | omega | assumption) only [↓reduceIte, go_sem, e1, e2, e3, g0, g5, g7, e4, e5, e6]); (case k3 => simp (disch := first | omega | assumption) only [↓reduceIte, go_sem, e1, e2, e3, g0, g5, g7, e4, e5, e6]); (case hb => (intro hc; (try simp (disch := first | omega | assumption) only [↓reduceIte, go_sem, e1, e2, e3, g0, g5, g7, e4, e5, e6] at hc); simp (disch := first | omega | assumption) only [↓reduceIte, go_sem, hc, e1, e2, e3, g0, g5, g7, e4, e5, e6])); (try simp (disch := first | omega | assumption) only [↓reduceIte, go_sem, e1, e2, e3, g0, g5, g7, e4, e5, e6])) | (apply vopsQ_gu; (case hd => rfl); (case h1 => rfl); (case h2 => rfl); (case h3 => simp (disch := first | omega | assumption) only [↓reduceIte, go_sem, e1, e2, e3, g0, g5, g7, e4, e5, e6]); (case hq => (intro hc K' hk'; (try simp (disch := first | omega | assumption) only [↓reduceIte, go_sem, e1, e2, e3, g0, g5, g7, e4, e5, e6] at hc); repeat (first | simp (maxSteps := 4000000) (disch := first | omega | assumption) only [↓reduceIte, go_sem, hc, e1, e2, e3, g0, g5, g7, e4, e5, e6] | with_reducible refine Gst.now ?_ | with_reducible refine vawp_draw mixed (by kernel_rfl) ?_ | with_reducible first | refine lwV_out ?_ | refine lwV_out0 ?_ | refine lkC_out ?_ | refine And.intro (by omega) ?_ | fail); exact hk')); (try simp (disch := first | omega | assumption) only [↓reduceIte, go_sem, e1, e2, e3, g0, g5, g7, e4, e5, e6])) | fail)
        simp only [vopsQ_nil]
        repeat (first | (simp (maxSteps := 1000000) only [↓reduceIte, go_sem, e1, e2, e3, g0, g5, g7, e4, e5, e6]) | (simp (maxSteps := 1000000) (disch := first | omega | assumption) only [BB, e1, e2, e3, g0, g5, g7, e4, e5, e6]) | with_reducible refine Gst.now ?_ | with_reducible refine vawp_draw mixed (by kernel_rfl) ?_ | with_reducible first | refine lwV_out ?_ | refine lwV_out0 ?_ | refine lkC_out ?_ | refine And.intro (by omega) ?_ | fail)
        have hdec : (m == 0 || decide (4 < dd) && v) = decide (litT b dd at_ (m, k) s1) := by
          rw [hv]
          apply Bool.eq_iff_iff.2
          rw [decide_eq_true_iff]
          simp only [litT, Bool.or_eq_true, Bool.and_eq_true, decide_eq_true_eq, beq_iff_eq]
        rw [hdec]
        split
        · rename_i hl0
          have hlit : litT b dd at_ (m, k) s1 := by simpa using hl0
          rw [if_pos hlit] at hfind
          rcases hO with ⟨rfl, g6, hO⟩ | ⟨o, o1, o2, o3, g6, o5, o6⟩
          · have g6 := g6
            repeat (first | (simp (maxSteps := 1000000) only [↓reduceIte, go_sem, e1, e2, e3, g0, g5, g7, e4, e5, e6, g6]) | (simp (maxSteps := 1000000) (disch := first | omega | assumption) only [BB, e1, e2, e3, g0, g5, g7, e4, e5, e6, g6]) | with_reducible refine Gst.now ?_ | with_reducible refine vawp_draw mixed (by kernel_rfl) ?_ | with_reducible first | refine lwV_out ?_ | refine lwV_out0 ?_ | refine lkC_out ?_ | refine And.intro (by omega) ?_ | fail)
            refine vBuildS_isl' bs22 (by decide) ⟨tokC ⟨b.getD at_ 0, 0, 0⟩, rfl, rfl, ?_⟩
            repeat (first | (simp (maxSteps := 1000000) only [↓reduceIte, go_sem, e1, e2, e3, g0, g5, g7, e4, e5, e6, g6]) | (simp (maxSteps := 1000000) (disch := first | omega | assumption) only [BB, e1, e2, e3, g0, g5, g7, e4, e5, e6, g6]) | with_reducible refine Gst.now ?_ | with_reducible refine vawp_draw mixed (by kernel_rfl) ?_ | with_reducible first | refine lwV_out ?_ | refine lwV_out0 ?_ | refine lkC_out ?_ | refine And.intro (by omega) ?_ | fail)
            apply vApp_nil_isl ap22 (by simp only [go_sem])
            case hv => first | (simp []; done) | (simp []; omega) | rfl | assumption
            case h1 => first | omega | (simp []; omega) | (simp []; done)
            case h2 => first | omega | (simp []; omega) | (simp []; done)
            try (case hK0 => first | (intro hh; omega) | (intro hh; exact absurd hh (by decide)))
            intro _ o ho
            obtain ⟨z1, z2, z3⟩ := OutT.app0 (t := ⟨b.getD at_ 0, 0, 0⟩) hO (blkV_ne hbj) (blkV_ne hbq) ho
            repeat (first | (simp (maxSteps := 1000000) only [↓reduceIte, go_sem, e1, e2, e3, g0, g5, g7, e4, e5, e6, g6]) | (simp (maxSteps := 1000000) (disch := first | omega | assumption) only [BB, e1, e2, e3, g0, g5, g7, e4, e5, e6, g6]) | with_reducible refine Gst.now ?_ | with_reducible refine vawp_draw mixed (by kernel_rfl) ?_ | with_reducible first | refine lwV_out ?_ | refine lwV_out0 ?_ | refine lkC_out ?_ | refine And.intro (by omega) ?_ | fail)
            exact ⟨c, by omega, s1, F1, [⟨b.getD at_ 0, 0, 0⟩], at_ + 1, by omega, rfl, hfind, by simp, I1, ⟨hl1, f0, f1, f3, fx⟩, blkV_eq hbj z2, blkV_eq hbq z3, z1⟩
          · have g6 := g6
            have hol2 := hol
            have hfl := tok_len out
            repeat (first | (simp (maxSteps := 1000000) only [↓reduceIte, go_sem, e1, e2, e3, g0, g5, g7, e4, e5, e6, g6]) | (simp (maxSteps := 1000000) (disch := first | omega | assumption) only [BB, e1, e2, e3, g0, g5, g7, e4, e5, e6, g6]) | with_reducible refine Gst.now ?_ | with_reducible refine vawp_draw mixed (by kernel_rfl) ?_ | with_reducible first | refine lwV_out ?_ | refine lwV_out0 ?_ | refine lkC_out ?_ | refine And.intro (by omega) ?_ | fail)
            refine vBuildS_isl' bs22 (by decide) ⟨tokC ⟨b.getD at_ 0, 0, 0⟩, rfl, rfl, ?_⟩
            repeat (first | (simp (maxSteps := 1000000) only [↓reduceIte, go_sem, e1, e2, e3, g0, g5, g7, e4, e5, e6, g6]) | (simp (maxSteps := 1000000) (disch := first | omega | assumption) only [BB, e1, e2, e3, g0, g5, g7, e4, e5, e6, g6]) | with_reducible refine Gst.now ?_ | with_reducible refine vawp_draw mixed (by kernel_rfl) ?_ | with_reducible first | refine lwV_out ?_ | refine lwV_out0 ?_ | refine lkC_out ?_ | refine And.intro (by omega) ?_ | fail)
            apply vApp_own_isl ap22 (by simp only [go_sem])
            case hv => first | (simp []; done) | (simp []; omega) | rfl | assumption
            case hj => repeat (first | exact hset_at _ _ _ | assumption | refine (hset_ne _ _ (by first | omega | assumption)).trans ?_ | refine (hdel_ne _ (by first | omega | assumption)).trans ?_ | fail)
            case hl => first | (simp []; done) | (simp []; omega) | rfl | assumption
            case h1 => first | omega | (simp []; omega) | (simp []; done)
            case h2 => first | omega | (simp []; omega) | (simp []; done)
            intro o' ho'
            rw [show out.flatMap tokC ++ [(.sc (.int .u8 ((b.getD at_ 0 : Nat)))), (.sc (.int .i64 (0))), (.sc (.int .i64 (0)))] = (out ++ [(⟨b.getD at_ 0, 0, 0⟩ : TokV)]).flatMap tokC from (flat_snoc out ⟨b.getD at_ 0, 0, 0⟩).symm]
            obtain ⟨z1, z2, z3⟩ := OutT.app (out := out) (t := ⟨b.getD at_ 0, 0, 0⟩) o1 o2 o3 o6 (blkV_ne hbj) (blkV_ne hbq) ho'
            repeat (first | (simp (maxSteps := 1000000) only [↓reduceIte, go_sem, e1, e2, e3, g0, g5, g7, e4, e5, e6, g6]) | (simp (maxSteps := 1000000) (disch := first | omega | assumption) only [BB, e1, e2, e3, g0, g5, g7, e4, e5, e6, g6]) | with_reducible refine Gst.now ?_ | with_reducible refine vawp_draw mixed (by kernel_rfl) ?_ | with_reducible first | refine lwV_out ?_ | refine lwV_out0 ?_ | refine lkC_out ?_ | refine And.intro (by omega) ?_ | fail)
            exact ⟨c, by omega, s1, F1, out ++ [⟨b.getD at_ 0, 0, 0⟩], at_ + 1, by omega, rfl, by rw [hfind, List.append_assoc]; rfl, by simp; omega, I1, ⟨hl1, f0, f1, f3, fx⟩, blkV_eq hbj z2, blkV_eq hbq z3, z1⟩
        · rename_i hl0
          have hlit : ¬ litT b dd at_ (m, k) s1 := by simpa using hl0
          rw [if_neg hlit] at hfind
          have hm0 : ¬ m = 0 := fun hh => hlit (.inl hh)
          have hm3 : 3 ≤ m := by omega
          rcases hO with ⟨rfl, g6, hO⟩ | ⟨o, o1, o2, o3, g6, o5, o6⟩
          · have g6 := g6
            repeat (first | (simp (maxSteps := 1000000) only [↓reduceIte, go_sem, e1, e2, e3, g0, g5, g7, e4, e5, e6, g6]) | (simp (maxSteps := 1000000) (disch := first | omega | assumption) only [BB, e1, e2, e3, g0, g5, g7, e4, e5, e6, g6]) | with_reducible refine Gst.now ?_ | with_reducible refine vawp_draw mixed (by kernel_rfl) ?_ | with_reducible first | refine lwV_out ?_ | refine lwV_out0 ?_ | refine lkC_out ?_ | refine And.intro (by omega) ?_ | fail)
            refine vBuildS_isl' bs22 (by decide) ⟨tokC ⟨0, (m : Nat), (k : Nat)⟩, rfl, rfl, ?_⟩
            repeat (first | (simp (maxSteps := 1000000) only [↓reduceIte, go_sem, e1, e2, e3, g0, g5, g7, e4, e5, e6, g6]) | (simp (maxSteps := 1000000) (disch := first | omega | assumption) only [BB, e1, e2, e3, g0, g5, g7, e4, e5, e6, g6]) | with_reducible refine Gst.now ?_ | with_reducible refine vawp_draw mixed (by kernel_rfl) ?_ | with_reducible first | refine lwV_out ?_ | refine lwV_out0 ?_ | refine lkC_out ?_ | refine And.intro (by omega) ?_ | fail)
            apply vApp_nil_isl ap22 (by simp only [go_sem])
            case hv => first | (simp []; done) | (simp []; omega) | rfl | assumption
            case h1 => first | omega | (simp []; omega) | (simp []; done)
            case h2 => first | omega | (simp []; omega) | (simp []; done)
            try (case hK0 => first | (intro hh; omega) | (intro hh; exact absurd hh (by decide)))
            intro _ o ho
            obtain ⟨z1, z2, z3⟩ := OutT.app0 (t := ⟨0, (m : Nat), (k : Nat)⟩) hO (blkV_ne hbj) (blkV_ne hbq) ho
            generalize hH : hset h2 o (.cells 41 false ([(⟨0, (m : Nat), (k : Nat)⟩ : TokV)].flatMap tokC)) = h3 at z1 z2 z3
            have hH3 : hset h2 o (.cells 41 false [(.sc (.int .u8 (0))), (.sc (.int .i64 ((m : Nat)))), (.sc (.int .i64 ((k : Nat))))]) = h3 := hH
            rw [hH3]
            clear hH hH3
            obtain ⟨out, hout⟩ : ∃ out : List TokV, out = [] := ⟨_, rfl⟩
            have hol2 : out.length ≤ at_ := by rw [hout]; simp
            have hfind : findF b dd = out ++ (⟨0, (m : Nat), (k : Nat)⟩ : TokV) :: findL b dd c (at_ + m) (notesF b at_ (m - 1) s1) := by rw [hout]; exact hfind
            have z1 : OutT h j q (out ++ [⟨0, (m : Nat), (k : Nat)⟩]) (.own o 0 1) h3 := by rw [hout]; exact z1
            repeat (first | (simp (maxSteps := 1000000) only [↓reduceIte, go_sem, e1, e2, e3, g0, g5, g7, e4, e5, e6, g6]) | (simp (maxSteps := 1000000) (disch := first | omega | assumption) only [BB, e1, e2, e3, g0, g5, g7, e4, e5, e6, g6]) | with_reducible refine Gst.now ?_ | with_reducible refine vawp_draw mixed (by kernel_rfl) ?_ | with_reducible first | refine lwV_out ?_ | refine lwV_out0 ?_ | refine lkC_out ?_ | refine And.intro (by omega) ?_ | fail)
            refine vawp_loop (k := m - 1) (fun c2 ρ h3 => ∃ (i : Nat) (s2 : StF) (F2 : List AV), c2 + i = m ∧ 1 ≤ i ∧ ρ 0 = .isl nl b.length (b.map (iv .u8)) ∧ ρ 5 = .op j 0 ∧ ρ 7 = (.sc (.int .i64 ((at_ : Nat)))) ∧ ρ 8 = (.sc (.int .i64 ((m : Nat)))) ∧ ρ 10 = (.sc (.int .i64 ((i : Nat)))) ∧ s2 = notesF b at_ (i - 1) s1 ∧ FinP F2 nl b dd q s2.1 ∧ blkV h3 j = some (49, F2) ∧ blkV h3 q = some (3, s2.2.map (iv .i64)) ∧ OutT h j q (out ++ [⟨0, (m : Nat), (k : Nat)⟩]) (ρ 6) h3) ?_ ?_
            · refine ⟨1, s1, F1, by omega, ?_⟩
              repeat (first | (simp (maxSteps := 1000000) only [↓reduceIte, go_sem, e1, e2, e3, g0, g5, g7, e4, e5, e6, g6]) | (simp (maxSteps := 1000000) (disch := first | omega | assumption) only [BB, e1, e2, e3, g0, g5, g7, e4, e5, e6, g6]) | with_reducible refine Gst.now ?_ | with_reducible refine vawp_draw mixed (by kernel_rfl) ?_ | with_reducible first | refine lwV_out ?_ | refine lwV_out0 ?_ | refine lkC_out ?_ | refine And.intro (by omega) ?_ | fail)
              exact ⟨rfl, ⟨hl1, f0, f1, f3, fx⟩, blkV_eq hbj z2, blkV_eq hbq z3, z1⟩
            · rintro c2 ρ h3 ⟨i, s2, F2, hc2, hi1, g0, g5, g7, g8, g10, hs2, fp2, hbj2, hbq2, hO2⟩
              by_cases him : i < m
              · have e8 := eq_true him
                have I2 : Inv b (at_ + i) s2 := by
                  rw [hs2, show at_ + i = at_ + 1 + (i - 1) by omega]
                  exact I1.notes (i - 1)
                repeat (first | (simp (maxSteps := 1000000) only [↓reduceIte, go_sem, e1, e2, e3, g0, g5, g7, e4, e5, e6, g6, g8, g10, e8]) | (simp (maxSteps := 1000000) (disch := first | omega | assumption) only [BB, e1, e2, e3, g0, g5, g7, e4, e5, e6, g6, g8, g10, e8]) | with_reducible refine Gst.now ?_ | with_reducible refine vawp_draw mixed (by kernel_rfl) ?_ | with_reducible first | refine lwV_out ?_ | refine lwV_out0 ?_ | refine lkC_out ?_ | refine And.intro (by omega) ?_ | fail)
                refine call_ok (note_s hbj2 hbq2 hjq fp2 I2 hb h8 (by omega) fun h4 F3 s3 hs3 hbj3 hbq3 fp3 h43 => ?_)
                repeat (first | (simp (maxSteps := 1000000) only [↓reduceIte, go_sem, e1, e2, e3, g0, g5, g7, e4, e5, e6, g6, g8, g10, e8]) | (simp (maxSteps := 1000000) (disch := first | omega | assumption) only [BB, e1, e2, e3, g0, g5, g7, e4, e5, e6, g6, g8, g10, e8]) | with_reducible refine Gst.now ?_ | with_reducible refine vawp_draw mixed (by kernel_rfl) ?_ | with_reducible first | refine lwV_out ?_ | refine lwV_out0 ?_ | refine lkC_out ?_ | refine And.intro (by omega) ?_ | fail)
                refine ⟨c2 - 1, by omega, i + 1, s3, F3, by omega, by omega, ?_⟩
                repeat (first | (simp (maxSteps := 1000000) only [↓reduceIte, go_sem, e1, e2, e3, g0, g5, g7, e4, e5, e6, g6, g8, g10, e8]) | (simp (maxSteps := 1000000) (disch := first | omega | assumption) only [BB, e1, e2, e3, g0, g5, g7, e4, e5, e6, g6, g8, g10, e8]) | with_reducible refine Gst.now ?_ | with_reducible refine vawp_draw mixed (by kernel_rfl) ?_ | with_reducible first | refine lwV_out ?_ | refine lwV_out0 ?_ | refine lkC_out ?_ | refine And.intro (by omega) ?_ | fail)
                refine ⟨?_, fp3, hbj3, hbq3, hO2.mono h43⟩
                rw [hs3, hs2]
                obtain ⟨y, rfl⟩ : ∃ y, i = y + 1 := ⟨i - 1, by omega⟩
                rfl
              · have e8 := eq_false him
                have hii : i = m := by omega
                subst hii
                have I2 : Inv b (at_ + i) s2 := by
                  rw [hs2, show at_ + i = at_ + 1 + (i - 1) by omega]
                  exact I1.notes (i - 1)
                rw [← hs2] at hfind
                repeat (first | (simp (maxSteps := 1000000) only [↓reduceIte, go_sem, e1, e2, e3, g0, g5, g7, e4, e5, e6, g6, g8, g10, e8]) | (simp (maxSteps := 1000000) (disch := first | omega | assumption) only [BB, e1, e2, e3, g0, g5, g7, e4, e5, e6, g6, g8, g10, e8]) | with_reducible refine Gst.now ?_ | with_reducible refine vawp_draw mixed (by kernel_rfl) ?_ | with_reducible first | refine lwV_out ?_ | refine lwV_out0 ?_ | refine lkC_out ?_ | refine And.intro (by omega) ?_ | fail)
                exact ⟨c + 1 - i, by omega, s2, F2, out ++ [⟨0, (i : Nat), (k : Nat)⟩], at_ + i, by omega, rfl, by rw [hfind, List.append_assoc, findL_fuel c (c + 1 - i) (at_ + i) s2 (by omega) (by omega)]; rfl, by simp; omega, I2, fp2, hbj2, hbq2, hO2⟩
          · have g6 := g6
            have hol2 := hol
            have hfl := tok_len out
            repeat (first | (simp (maxSteps := 1000000) only [↓reduceIte, go_sem, e1, e2, e3, g0, g5, g7, e4, e5, e6, g6]) | (simp (maxSteps := 1000000) (disch := first | omega | assumption) only [BB, e1, e2, e3, g0, g5, g7, e4, e5, e6, g6]) | with_reducible refine Gst.now ?_ | with_reducible refine vawp_draw mixed (by kernel_rfl) ?_ | with_reducible first | refine lwV_out ?_ | refine lwV_out0 ?_ | refine lkC_out ?_ | refine And.intro (by omega) ?_ | fail)
            refine vBuildS_isl' bs22 (by decide) ⟨tokC ⟨0, (m : Nat), (k : Nat)⟩, rfl, rfl, ?_⟩
            repeat (first | (simp (maxSteps := 1000000) only [↓reduceIte, go_sem, e1, e2, e3, g0, g5, g7, e4, e5, e6, g6]) | (simp (maxSteps := 1000000) (disch := first | omega | assumption) only [BB, e1, e2, e3, g0, g5, g7, e4, e5, e6, g6]) | with_reducible refine Gst.now ?_ | with_reducible refine vawp_draw mixed (by kernel_rfl) ?_ | with_reducible first | refine lwV_out ?_ | refine lwV_out0 ?_ | refine lkC_out ?_ | refine And.intro (by omega) ?_ | fail)
            apply vApp_own_isl ap22 (by simp only [go_sem])
            case hv => first | (simp []; done) | (simp []; omega) | rfl | assumption
            case hj => repeat (first | exact hset_at _ _ _ | assumption | refine (hset_ne _ _ (by first | omega | assumption)).trans ?_ | refine (hdel_ne _ (by first | omega | assumption)).trans ?_ | fail)
            case hl => first | (simp []; done) | (simp []; omega) | rfl | assumption
            case h1 => first | omega | (simp []; omega) | (simp []; done)
            case h2 => first | omega | (simp []; omega) | (simp []; done)
            intro o' ho'
            rw [show out.flatMap tokC ++ [(.sc (.int .u8 (0))), (.sc (.int .i64 ((m : Nat)))), (.sc (.int .i64 ((k : Nat))))] = (out ++ [(⟨0, (m : Nat), (k : Nat)⟩ : TokV)]).flatMap tokC from (flat_snoc out ⟨0, (m : Nat), (k : Nat)⟩).symm]
            obtain ⟨z1, z2, z3⟩ := OutT.app (out := out) (t := ⟨0, (m : Nat), (k : Nat)⟩) o1 o2 o3 o6 (blkV_ne hbj) (blkV_ne hbq) ho'
            repeat (first | (simp (maxSteps := 1000000) only [↓reduceIte, go_sem, e1, e2, e3, g0, g5, g7, e4, e5, e6, g6]) | (simp (maxSteps := 1000000) (disch := first | omega | assumption) only [BB, e1, e2, e3, g0, g5, g7, e4, e5, e6, g6]) | with_reducible refine Gst.now ?_ | with_reducible refine vawp_draw mixed (by kernel_rfl) ?_ | with_reducible first | refine lwV_out ?_ | refine lwV_out0 ?_ | refine lkC_out ?_ | refine And.intro (by omega) ?_ | fail)
            refine vawp_loop (k := m - 1) (fun c2 ρ h3 => ∃ (i : Nat) (s2 : StF) (F2 : List AV), c2 + i = m ∧ 1 ≤ i ∧ ρ 0 = .isl nl b.length (b.map (iv .u8)) ∧ ρ 5 = .op j 0 ∧ ρ 7 = (.sc (.int .i64 ((at_ : Nat)))) ∧ ρ 8 = (.sc (.int .i64 ((m : Nat)))) ∧ ρ 10 = (.sc (.int .i64 ((i : Nat)))) ∧ s2 = notesF b at_ (i - 1) s1 ∧ FinP F2 nl b dd q s2.1 ∧ blkV h3 j = some (49, F2) ∧ blkV h3 q = some (3, s2.2.map (iv .i64)) ∧ OutT h j q (out ++ [⟨0, (m : Nat), (k : Nat)⟩]) (ρ 6) h3) ?_ ?_
            · refine ⟨1, s1, F1, by omega, ?_⟩
              repeat (first | (simp (maxSteps := 1000000) only [↓reduceIte, go_sem, e1, e2, e3, g0, g5, g7, e4, e5, e6, g6]) | (simp (maxSteps := 1000000) (disch := first | omega | assumption) only [BB, e1, e2, e3, g0, g5, g7, e4, e5, e6, g6]) | with_reducible refine Gst.now ?_ | with_reducible refine vawp_draw mixed (by kernel_rfl) ?_ | with_reducible first | refine lwV_out ?_ | refine lwV_out0 ?_ | refine lkC_out ?_ | refine And.intro (by omega) ?_ | fail)
              exact ⟨rfl, ⟨hl1, f0, f1, f3, fx⟩, blkV_eq hbj z2, blkV_eq hbq z3, z1⟩
            · rintro c2 ρ h3 ⟨i, s2, F2, hc2, hi1, g0, g5, g7, g8, g10, hs2, fp2, hbj2, hbq2, hO2⟩
              by_cases him : i < m
              · have e8 := eq_true him
                have I2 : Inv b (at_ + i) s2 := by
                  rw [hs2, show at_ + i = at_ + 1 + (i - 1) by omega]
                  exact I1.notes (i - 1)
                repeat (first | (simp (maxSteps := 1000000) only [↓reduceIte, go_sem, e1, e2, e3, g0, g5, g7, e4, e5, e6, g6, g8, g10, e8]) | (simp (maxSteps := 1000000) (disch := first | omega | assumption) only [BB, e1, e2, e3, g0, g5, g7, e4, e5, e6, g6, g8, g10, e8]) | with_reducible refine Gst.now ?_ | with_reducible refine vawp_draw mixed (by kernel_rfl) ?_ | with_reducible first | refine lwV_out ?_ | refine lwV_out0 ?_ | refine lkC_out ?_ | refine And.intro (by omega) ?_ | fail)
                refine call_ok (note_s hbj2 hbq2 hjq fp2 I2 hb h8 (by omega) fun h4 F3 s3 hs3 hbj3 hbq3 fp3 h43 => ?_)
                repeat (first | (simp (maxSteps := 1000000) only [↓reduceIte, go_sem, e1, e2, e3, g0, g5, g7, e4, e5, e6, g6, g8, g10, e8]) | (simp (maxSteps := 1000000) (disch := first | omega | assumption) only [BB, e1, e2, e3, g0, g5, g7, e4, e5, e6, g6, g8, g10, e8]) | with_reducible refine Gst.now ?_ | with_reducible refine vawp_draw mixed (by kernel_rfl) ?_ | with_reducible first | refine lwV_out ?_ | refine lwV_out0 ?_ | refine lkC_out ?_ | refine And.intro (by omega) ?_ | fail)
                refine ⟨c2 - 1, by omega, i + 1, s3, F3, by omega, by omega, ?_⟩
                repeat (first | (simp (maxSteps := 1000000) only [↓reduceIte, go_sem, e1, e2, e3, g0, g5, g7, e4, e5, e6, g6, g8, g10, e8]) | (simp (maxSteps := 1000000) (disch := first | omega | assumption) only [BB, e1, e2, e3, g0, g5, g7, e4, e5, e6, g6, g8, g10, e8]) | with_reducible refine Gst.now ?_ | with_reducible refine vawp_draw mixed (by kernel_rfl) ?_ | with_reducible first | refine lwV_out ?_ | refine lwV_out0 ?_ | refine lkC_out ?_ | refine And.intro (by omega) ?_ | fail)
                refine ⟨?_, fp3, hbj3, hbq3, hO2.mono h43⟩
                rw [hs3, hs2]
                obtain ⟨y, rfl⟩ : ∃ y, i = y + 1 := ⟨i - 1, by omega⟩
                rfl
              · have e8 := eq_false him
                have hii : i = m := by omega
                subst hii
                have I2 : Inv b (at_ + i) s2 := by
                  rw [hs2, show at_ + i = at_ + 1 + (i - 1) by omega]
                  exact I1.notes (i - 1)
                rw [← hs2] at hfind
                repeat (first | (simp (maxSteps := 1000000) only [↓reduceIte, go_sem, e1, e2, e3, g0, g5, g7, e4, e5, e6, g6, g8, g10, e8]) | (simp (maxSteps := 1000000) (disch := first | omega | assumption) only [BB, e1, e2, e3, g0, g5, g7, e4, e5, e6, g6, g8, g10, e8]) | with_reducible refine Gst.now ?_ | with_reducible refine vawp_draw mixed (by kernel_rfl) ?_ | with_reducible first | refine lwV_out ?_ | refine lwV_out0 ?_ | refine lkC_out ?_ | refine And.intro (by omega) ?_ | fail)
                exact ⟨c + 1 - i, by omega, s2, F2, out ++ [⟨0, (i : Nat), (k : Nat)⟩], at_ + i, by omega, rfl, by rw [hfind, List.append_assoc, findL_fuel c (c + 1 - i) (at_ + i) s2 (by omega) (by omega)]; rfl, by simp; omega, I2, fp2, hbj2, hbq2, hO2⟩
      · have e4 := eq_false hat
        have hc0 : c = 0 := by omega
        rw [hc0, findL, List.append_nil] at hfind
        rw [hfind] at hK
        repeat (first | (simp (maxSteps := 1000000) only [↓reduceIte, go_sem, e1, e2, e3, g0, g5, g7, e4]) | (simp (maxSteps := 1000000) (disch := first | omega | assumption) only [BB, e1, e2, e3, g0, g5, g7, e4]) | with_reducible refine Gst.now ?_ | with_reducible refine vawp_draw mixed (by kernel_rfl) ?_ | with_reducible first | refine lwV_out ?_ | refine lwV_out0 ?_ | refine lkC_out ?_ | refine And.intro (by omega) ?_ | fail)
        refine hq _ _ ?_
        repeat (first | (simp (maxSteps := 1000000) only [↓reduceIte, go_sem, e1, e2, e3, g0, g5, g7, e4]) | (simp (maxSteps := 1000000) (disch := first | omega | assumption) only [BB, e1, e2, e3, g0, g5, g7, e4]) | with_reducible refine Gst.now ?_ | with_reducible refine vawp_draw mixed (by kernel_rfl) ?_ | with_reducible first | refine lwV_out ?_ | refine lwV_out0 ?_ | refine lkC_out ?_ | refine And.intro (by omega) ?_ | fail)
        rcases hO with ⟨rfl, g6, hO⟩ | ⟨o, o1, o2, o3, g6, o5, o6⟩
        · rw [g6]
          refine .drop j (.drop q (.now (hcast (hK true) ?_)))
          funext i
          by_cases h1q : i = q
          · rw [h1q, hq0]; exact hdel_at _ _
          · rw [hdel_ne _ h1q]
            by_cases h1j : i = j
            · rw [h1j, hj0]; exact hdel_at _ _
            · rw [hdel_ne _ h1j, hO i h1j h1q]
        · rw [g6]
          refine .drop j (.drop q (.frz (v' := .isl false out.length (out.flatMap tokC)) o (e := 41) (nl := false) (cs := out.flatMap tokC) ?_ (.own _) (.now (hcast (hK false) ?_))))
          · rw [hdel_ne _ o2, hdel_ne _ o1]; exact o5
          · funext i
            by_cases h1o : i = o
            · rw [h1o, o3]; exact hdel_at _ _
            · rw [hdel_ne _ h1o]
              by_cases h1q : i = q
              · rw [h1q, hq0]; exact hdel_at _ _
              · rw [hdel_ne _ h1q]
                by_cases h1j : i = j
                · rw [h1j, hj0]; exact hdel_at _ _
                · rw [hdel_ne _ h1j, o6 i h1j h1q h1o]
end
end Go.Proofs.YtipeglbklhincaaDoor.VFindC
