/- chapter 20: plain facts of what is written, and read again. -/
import Derived.Test.YtcdjaihaalaepaaProg
import Derived.Test.YtcdjaihaalaepaaAbV14
import Derived.Test.YtcdjaihaalaepaaAbFacts
import Derived.Test.YtcdjaihaalaepaaAbLittleM
import Derived.Test.YtcdjaihaalaepaaAbVLittle
import Derived.Test.YtcdjaihaalaepaaAbVSame
import Derived.Test.YtcdjaihaalaepaaAbVRef07
import Derived.Test.YtcdjaihaalaepaaAbVTail
import Derived.Test.YtcdjaihaalaepaaAbVTailP
import Derived.Test.YtcdjaihaalaepaaAbVTailQ
import Derived.Test.YtcdjaihaalaepaaAbVParse
import Derived.KernelRfl
import Derived.Laws.BitsAllLaws
set_option linter.unusedVariables false
set_option linter.unusedSimpArgs false
set_option maxRecDepth 100000
set_option maxHeartbeats 4000000
namespace Go.Proofs.Ytcdjaihaalaepaa.VTailM
open Go.RowKit Go.Proofs.AbM Go.Proofs.Ytcdjaihaalaepaa.Facts Go.Proofs.Ytcdjaihaalaepaa.LittleM Go.Proofs.Ytcdjaihaalaepaa.VLittle Go.Proofs.Ytcdjaihaalaepaa.VSame Go.Proofs.Ytcdjaihaalaepaa.VRef07 Go.Proofs.Ytcdjaihaalaepaa.VTail Go.Proofs.Ytcdjaihaalaepaa.VTailP Go.Proofs.Ytcdjaihaalaepaa.VTailQ Go.Proofs.Ytcdjaihaalaepaa.VParse
attribute [local go_sem] vawp_skip_eq vawp_seq_eq vawp_region_eq vawp_cond_g vawp_block_eq vawp_exit_eq vawp_ret_eq thenV_ret thenV_exit thenV_normal inBlockV_normal inBlockV_ret inBlockV_exit resKV_nil resKV_tmp resKV_cell oneV_one oneV_nil oneV_more initV_nil initV_cons updV_at evv_tmp evv_func evv_global evv_int evv_bool evv_str evv_snil evv_pnil evv_agg ofV3_int ofV3_bool ofV3_str ofV3_snil ofV3_pnil vok_tmp vok_func vok_global vok_int vok_bool vok_str vok_snil vok_pnil vok_agg cloV3_int cloV3_bool cloV3_str cloV3_snil cloV3_pnil voks_nil voks_cons scV_int scV_bool scV_str isBlV_b isBV_t isBV_f lwV_none lwV_sc lwV_agg lwV_tup lwV_isl lwV_own lwV_op lwV_ip lwV_fn lwV_junk vops_nil vops_n vops_s gsN_eq vop dstOk_some dstOk_none pkV_b blkV_set eRead_f eRead_t vLoad_op vLoad_ip vStore_op cells_sc cells_isl cells_own cells_op cells_ip cells_fn cells_agg parts_sc parts_isl parts_own parts_op parts_ip parts_fn parts_agg one_sc one_isl one_own one_op one_ip one_fn vField_op vField_ip ePart_f ePart_t vFieldV_agg vIx_isl vIx_own vIx_op vIx_ip vIxV_agg vIxV_str vLen_str vLen_isl vLen_own vLen_agg bndE_none bndE_int vSlice_isl vSlice_str vBin_add vBin_sub vBin_mul vBin_quo vBin_rem vBin_and vBin_or vBin_xor vBin_andNot vBin_eql vBin_neq vBin_lss vBin_leq vBin_gtr vBin_geq vBin_shr_i8 vBin_shl_i8 vBin_shr_i16 vBin_shl_i16 vBin_shr_i32 vBin_shl_i32 vBin_shr_i64 vBin_shl_i64 vBin_shr_u8 vBin_shl_u8 vBin_shr_u16 vBin_shl_u16 vBin_shr_u32 vBin_shl_u32 vBin_shr_u64 vBin_shl_u64 vBin_seq vBin_sne vBin_isln vBin_opn vBin_ipn ex_sc ex_sc2 ex_sc3 ex_tup calleeV wSc_pb wSc_pi wSc_not wSc_neg wSc_com wSc_min2 wSc_max2 vfold_nil vfold_one vfold_cons vfill_nil vfill_e eFill_s vBuild vBox vAlloc setV_map setV_zs setV_zn setV_s hset_hset eConv_ss vConv_e iv_eq ivI_eq ex_get ex_getI set_iv set_ivI okNil isNilV isSlV hdel_at hset_at List.map_toArray List.map_cons List.map_nil List.nil_append List.cons_append List.append_nil List.toList_toArray List.getElem?_toArray List.getElem_toArray List.getElem_cons_zero List.getElem_cons_succ List.getElem?_cons_zero List.getElem?_cons_succ List.set_cons_zero List.set_cons_succ List.set_set List.length_cons List.length_nil List.length_set List.length_map List.all_cons List.all_nil List.drop_zero List.drop_succ_cons List.take_succ_cons List.take_zero List.flatMap_cons Bool.and_eq_true true_and and_true if_true if_false ite_true ite_false forall_eq' forall_eq exists_eq_left exists_eq_left' exists_eq' Value.bool.injEq Value.int.injEq Value.string.injEq Value.pointer.injEq Option.some.injEq AV.sc.injEq AV.op.injEq AV.ip.injEq AV.own.injEq AV.agg.injEq VB.cells.injEq VB.iter.injEq Prod.mk.injEq decide_eq_true_eq decide_eq_false_iff_not Nat.reduceEqDiff Nat.reduceLT Nat.reduceLeDiff Nat.reduceSub Nat.reduceBEq reduceIte Int.reduceLE Int.reduceLT Int.reduceToNat Int.reduceNeg Int.reduceEq Int.reduceNe Int.cast_ofNat_Int Nat.reduceMul Nat.reduceAdd Nat.reduceDiv Nat.reduceMod Nat.reducePow Int.reduceSub Int.reduceAdd Int.reduceMul Int.reducePow Option.isSome_some Option.isSome_none Option.bind_some Option.map_some Option.map_none Option.toList_some Option.toList_none true_or or_true or_false false_or Bool.not_true Bool.not_false Bool.not_eq_true Bool.false_eq_true Bool.not_not false_implies true_implies implies_true Nat.zero_add Nat.add_zero Nat.mul_one Bool.not_eq_true' Bool.true_eq_false Bool.and_true Bool.true_and Bool.and_false Bool.false_and Bool.or_true Bool.true_or Bool.or_false Bool.false_or Option.isNone_some Option.isNone_none Int.reduceBEq Int.reduceBNe beq_self_eq_true bne_self_eq_false beq_iff_eq not_false_eq_true not_true_eq_false Decidable.not_not bne_iff_ne ne_eq Int.toNat_natCast gt_lt ge_le c_add c_mul c_sub c_addn c_nadd c_muln c_nmul c_subn c_nsub c_divn c_modn c_div c_mod c_tdivn c_tmodn c_tdiv c_tmod c_pow c_nn c_beq c_beqn c_bne c_bnen wr64 wr32 wru64 wru32 wru16 wru8 c_if c_if1 c_if2 c_lt c_le c_eq c_ltn c_len c_nlt c_nle c_eqn m_drop m_take Nat.add_sub_cancel_left Nat.add_sub_cancel Int.reduceTMod Int.reduceTDiv Int.reduceMod Int.reduceDiv isC_some hset_ne hdel_ne hdel_hset hdel_hset_ne blkV_nset blkV_ndel hset_hdel gV_t gV_f isGdV_b isGdV_u isBV_u isGdV_g isBV_gt isBV_gf decide_true decide_false Bool.or_eq_false_iff eq_self Nat.lt_irrefl Int.lt_irrefl Nat.le_refl Int.le_refl
attribute [local go_sem high] vops_pk vops_mv vops_as vops_smv pk_and pk_or pk_gand pk_gor pk_orn pk_gorn
attribute [local go_sem] ag3 sz3 zc3 ik3 ag4 sz4 zc4 ag5 sz5 zc5 ik5 ag9 sz9 zc9 iq9 ag22 sz22 zc22 ik22 ag23 sz23 zc23 ik23 ag25 sz25 zc25 eqs25 nes25 bo25 ag27 sz27 zc27 eqs27 nes27 bo27 ag29 sz29 el29 zc29 is29 ag33 sz33 zc33 ik33 ag41 sz41 zc41 ag45 sz45 zc45 bo45 ag47 sz47 el47 zc47 is47 ag48 sz48 el48 zc48 is48 ag52 sz52 el52 zc52 is52 ag56 sz56 el56 zc56 is56 ag59 sz59 zc59 pt59 ag63 sz63 zc63 bo63 of25_0 fd25_0 of25_1 fd25_1 of25_2 fd25_2 of25_3 fd25_3 of25_4 fd25_4 of25_5 fd25_5 of25_6 fd25_6 of25_7 fd25_7 of25_8 fd25_8 of27_0 fd27_0 of27_1 fd27_1 of27_2 fd27_2 of27_3 fd27_3 of27_4 fd27_4 of27_5 fd27_5 of27_6 fd27_6 of27_7 fd27_7 of27_8 fd27_8 of45_0 fd45_0 of45_1 fd45_1 of63_0 fd63_0 of63_1 fd63_1 of63_2 fd63_2 eqb neb
section
theorem layN_app (a b : List (Nat × Nat)) : layN (a ++ b) = layN a ++ layN b := by unfold layN; rw [List.flatMap_append]
theorem isBy_layN (fs : List (Nat × Nat)) : IsBy (layN fs) := by
  intro b hb
  obtain ⟨f, _, hf⟩ := List.mem_flatMap.1 hb
  exact leB_by _ _ b hf
theorem lay_at (pre : List (Nat × Nat)) (f : Nat × Nat) (post : List (Nat × Nat)) {a k : Nat} (ha : (layN pre).length = a) (hk : f.2 = k) : ((layN (pre ++ f :: post)).drop a).take k = leB f.2 f.1 := by
  subst ha; subst hk
  rw [layN_app, List.drop_left]
  show (layN ([f] ++ post)).take f.2 = _
  rw [layN_app]
  have : layN [f] = leB f.2 f.1 := by simp [layN]
  rw [this, List.take_left' (leB_len _ _)]
theorem lay_num (pre : List (Nat × Nat)) (f : Nat × Nat) (post : List (Nat × Nat)) {a k : Nat} (ha : (layN pre).length = a) (hk : f.2 = k) (hf : f.1 < 256 ^ f.2) : leN (((layN (pre ++ f :: post)).drop a).take k) = f.1 := by
  rw [lay_at pre f post ha hk, leN_leB, Nat.mod_eq_of_lt hf]
theorem great_sum {t : TailV} : wholeN (layN (greatF t)) 101075792 56 = 0 := by
  unfold wholeN
  rw [greatF_len, if_neg (by decide), if_pos, if_neg (by decide), if_neg (by decide)]
  exact lay_num [] (101075792, 4) _ rfl rfl (by decide)
theorem loc_sum {t : TailV} : wholeN (layN (locF t)) 117853008 20 = 0 := by
  unfold wholeN
  rw [locF_len, if_neg (by decide), if_pos, if_neg (by decide), if_neg (by decide)]
  exact lay_num [] (117853008, 4) _ rfl rfl (by decide)
theorem end_sum {t : TailV} : wholeN (layN (endF t)) 101010256 22 = 0 := by
  unfold wholeN
  rw [endF_len, if_neg (by decide), if_pos, if_neg (by decide), if_neg (by decide)]
  exact lay_num [] (101010256, 4) _ rfl rfl (by decide)
def mixT (t u : TailV) : TailV := ⟨t.d, t.s, t.h, t.c, t.z, t.o, u.d64, u.ds, u.o64⟩
theorem mixT_self (t : TailV) : mixT t t = t := rfl
theorem read_back {t u : TailV} (ht : OkT t) (hu : OkT u) : readT (layN (greatF t)) (layN (locF u)) = mixT t u := by
  obtain ⟨a1, a2, a3, a4, a5, a6, a7, a8, a9⟩ := ht
  obtain ⟨b1, b2, b3, b4, b5, b6, b7, b8, b9⟩ := hu
  unfold readT mixT
  rw [TailV.mk.injEq]
  refine ⟨?_, ?_, ?_, ?_, ?_, ?_, ?_, ?_, ?_⟩
  · exact lay_num [(101075792, 4), (44, 8), (45, 2), (45, 2)] (t.d, 4) [(t.s, 4), (t.h, 8), (t.c, 8), (t.z, 8), (t.o, 8)] (by simp [layN, leB_len]) rfl a1
  · exact lay_num [(101075792, 4), (44, 8), (45, 2), (45, 2), (t.d, 4)] (t.s, 4) [(t.h, 8), (t.c, 8), (t.z, 8), (t.o, 8)] (by simp [layN, leB_len]) rfl a2
  · exact lay_num [(101075792, 4), (44, 8), (45, 2), (45, 2), (t.d, 4), (t.s, 4)] (t.h, 8) [(t.c, 8), (t.z, 8), (t.o, 8)] (by simp [layN, leB_len]) rfl a3
  · exact lay_num [(101075792, 4), (44, 8), (45, 2), (45, 2), (t.d, 4), (t.s, 4), (t.h, 8)] (t.c, 8) [(t.z, 8), (t.o, 8)] (by simp [layN, leB_len]) rfl a4
  · exact lay_num [(101075792, 4), (44, 8), (45, 2), (45, 2), (t.d, 4), (t.s, 4), (t.h, 8), (t.c, 8)] (t.z, 8) [(t.o, 8)] (by simp [layN, leB_len]) rfl a5
  · exact lay_num [(101075792, 4), (44, 8), (45, 2), (45, 2), (t.d, 4), (t.s, 4), (t.h, 8), (t.c, 8), (t.z, 8)] (t.o, 8) [] (by simp [layN, leB_len]) rfl a6
  · exact lay_num [(117853008, 4)] (u.d64, 4) [(u.o64, 8), (u.ds, 4)] (by simp [layN, leB_len]) rfl b7
  · exact lay_num [(117853008, 4), (u.d64, 4), (u.o64, 8)] (u.ds, 4) [] (by simp [layN, leB_len]) rfl b8
  · exact lay_num [(117853008, 4), (u.d64, 4)] (u.o64, 8) [(u.ds, 4)] (by simp [layN, leB_len]) rfl b9
theorem parse_back {t u : TailV} (ht : OkT t) (hu : OkT u) : parseN (layN (greatF t)) (layN (locF u)) (layN (endF t)) = (mixT t u, 0) := by
  unfold parseN
  rw [great_sum, loc_sum, end_sum, read_back ht hu]
  have e1 : greatF (mixT t u) = greatF t := rfl
  have e2 : endF (mixT t u) = endF t := rfl
  simp [e1, e2]
theorem split4 {l : List Nat} (hl : l.length = 20) : l = l.take 4 ++ ((l.drop 4).take 4 ++ ((l.drop 8).take 8 ++ (l.drop 16).take 4)) := by
  have e1 : (l.drop 16).take 4 = l.drop 16 := List.take_of_length_le (by rw [List.length_drop]; omega)
  have e2 : (l.drop 8).take 8 ++ l.drop 16 = l.drop 8 := by
    have := List.take_append_drop 8 (l.drop 8)
    rwa [List.drop_drop] at this
  have e3 : (l.drop 4).take 4 ++ l.drop 8 = l.drop 4 := by
    have := List.take_append_drop 4 (l.drop 4)
    rwa [List.drop_drop] at this
  rw [e1, e2, e3, List.take_append_drop]
theorem whole_sign {bs : List Nat} {s z : Nat} (h : wholeN bs s z = 0) : leN (bs.take 4) = s := by
  unfold wholeN at h
  split at h
  · cases h
  · split at h
    · assumption
    · cases h
theorem leB_back {l : List Nat} (hl : IsBy l) {k : Nat} (hk : l.length = k) : leB k (leN l) = l := by subst hk; exact leB_leN hl
theorem loc_back {g l : List Nat} (hl : IsBy l) (hw : wholeN l 117853008 20 = 0) : layN (locF (readT g l)) = l := by
  have h20 := wholeN_len hw
  have hs := whole_sign hw
  have key : layN (locF (readT g l)) = leB 4 (leN (l.take 4)) ++ (leB 4 (leN ((l.drop 4).take 4)) ++ (leB 8 (leN ((l.drop 8).take 8)) ++ leB 4 (leN ((l.drop 16).take 4)))) := by
    rw [hs]; simp [layN, locF, readT]
  rw [key, leB_back (hl.take 4) (by rw [List.length_take]; omega), leB_back ((hl.drop 4).take 4) (by rw [List.length_take, List.length_drop]; omega), leB_back ((hl.drop 8).take 8) (by rw [List.length_take, List.length_drop]; omega), leB_back ((hl.drop 16).take 4) (by rw [List.length_take, List.length_drop]; omega)]
  exact (split4 h20).symm
theorem parse_err {g l e : List Nat} (h : (parseN g l e).2 ≠ 0) : (parseN g l e).1 = t0 := by
  unfold parseN at h ⊢
  repeat' split
  all_goals first | rfl | skip
  rename_i h1 h2 h3 h4 h5
  rw [if_neg h1, if_neg h2, if_neg h3, if_pos h4, if_pos h5] at h
  exact absurd rfl h
theorem parse_ok {g l e : List Nat} (hg : IsBy g) (hl : IsBy l) (h : (parseN g l e).2 = 0) : layN (greatF (parseN g l e).1) = g ∧ layN (locF (parseN g l e).1) = l ∧ layN (endF (parseN g l e).1) = e ∧ OkT (parseN g l e).1 := by
  unfold parseN at h ⊢
  by_cases h1 : wholeN g 101075792 56 ≠ 0
  · rw [if_pos h1] at h; exact absurd h h1
  · rw [if_neg h1] at h ⊢
    by_cases h2 : wholeN l 117853008 20 ≠ 0
    · rw [if_pos h2] at h; exact absurd h h2
    · rw [if_neg h2] at h ⊢
      by_cases h3 : wholeN e 101010256 22 ≠ 0
      · rw [if_pos h3] at h; exact absurd h h3
      · rw [if_neg h3] at h ⊢
        by_cases h4 : layN (greatF (readT g l)) = g
        · rw [if_pos h4] at h ⊢
          by_cases h5 : layN (endF (readT g l)) = e
          · rw [if_pos h5]
            exact ⟨h4, loc_back hl (by simpa using h2), h5, okT_readT hg hl⟩
          · rw [if_neg h5] at h; cases h
        · rw [if_neg h4] at h; cases h
/-- Two tails with the same great end and locator are one. -/
theorem tail_inj {t u : TailV} (ht : OkT t) (hu : OkT u) (h1 : layN (greatF t) = layN (greatF u)) (h2 : layN (locF t) = layN (locF u)) : t = u := by
  have a := read_back ht ht
  have b := read_back hu hu
  rw [h1, h2, b] at a
  exact a.symm
end
end Go.Proofs.Ytcdjaihaalaepaa.VTailM
