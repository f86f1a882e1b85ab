/- rows of rows of bytes, over the machine of values: plain facts. -/
import Derived.Test.YtbmidddpddiopaaDoorProg
import Derived.Test.YtbmidddpddiopaaDoorAbV17
import Derived.Test.YtbmidddpddiopaaDoorAbFacts
import Derived.Test.YtbmidddpddiopaaDoorAbVG
import Derived.KernelRfl
import Derived.Laws.BitsAllLaws
set_option linter.unusedVariables false
set_option linter.unusedSimpArgs false
set_option maxRecDepth 100000
set_option maxHeartbeats 4000000
namespace Go.Proofs.YtbmidddpddiopaaDoor.VRow1
open Go.RowKit Go.Proofs.AbM Go.Proofs.YtbmidddpddiopaaDoor.Facts Go.Proofs.YtbmidddpddiopaaDoor.VG
attribute [local go_sem] vawp_skip_eq vawp_seq_eq vawp_region_eq vawp_cond_g vawp_block_eq vawp_exit_eq vawp_ret_eq thenV_ret thenV_exit thenV_normal inBlockV_normal inBlockV_ret inBlockV_exit resKV_nil resKV_tmp resKV_cell oneV_one oneV_nil oneV_more initV_nil initV_cons updV_at evv_tmp evv_func evv_global evv_int evv_bool evv_str evv_snil evv_pnil evv_agg ofV3_int ofV3_bool ofV3_str ofV3_snil ofV3_pnil vok_tmp vok_func vok_global vok_int vok_bool vok_str vok_snil vok_pnil vok_agg cloV3_int cloV3_bool cloV3_str cloV3_snil cloV3_pnil voks_nil voks_cons scV_int scV_bool scV_str isBlV_b isBV_t isBV_f lwV_none lwV_sc lwV_agg lwV_tup lwV_isl lwV_own lwV_op lwV_ip lwV_fn lwV_junk vops_nil vops_n vops_s gsN_eq vop dstOk_some dstOk_none pkV_b blkV_set eRead_f eRead_t vLoad_op vLoad_ip vStore_op cells_sc cells_isl cells_own cells_op cells_ip cells_fn cells_agg parts_sc parts_isl parts_own parts_op parts_ip parts_fn parts_agg one_sc one_isl one_own one_op one_ip one_fn vField_op vField_ip ePart_f ePart_t vFieldV_agg vIx_isl vIx_own vIx_op vIx_ip vIxV_agg vIxV_str vLen_str vLen_isl vLen_own vLen_agg bndE_none bndE_int vSlice_isl vSlice_str vBin_add vBin_sub vBin_mul vBin_quo vBin_rem vBin_and vBin_or vBin_xor vBin_andNot vBin_eql vBin_neq vBin_lss vBin_leq vBin_gtr vBin_geq vBin_shr_i8 vBin_shl_i8 vBin_shr_i16 vBin_shl_i16 vBin_shr_i32 vBin_shl_i32 vBin_shr_i64 vBin_shl_i64 vBin_shr_u8 vBin_shl_u8 vBin_shr_u16 vBin_shl_u16 vBin_shr_u32 vBin_shl_u32 vBin_shr_u64 vBin_shl_u64 vBin_seq vBin_sne vBin_isln vBin_opn vBin_ipn ex_sc ex_sc2 ex_sc3 ex_tup calleeV wSc_pb wSc_pi wSc_not wSc_neg wSc_com wSc_min2 wSc_max2 vfold_nil vfold_one vfold_cons vfill_nil vfill_e eFill_s vBuild vBox vAlloc setV_map setV_zs setV_zn setV_s hset_hset eConv_ss vConv_e iv_eq ivI_eq ex_get ex_getI set_iv set_ivI okNil isNilV isSlV hdel_at hset_at List.map_toArray List.map_cons List.map_nil List.nil_append List.cons_append List.append_nil List.toList_toArray List.getElem?_toArray List.getElem_toArray List.getElem_cons_zero List.getElem_cons_succ List.getElem?_cons_zero List.getElem?_cons_succ List.set_cons_zero List.set_cons_succ List.set_set List.length_cons List.length_nil List.length_set List.length_map List.all_cons List.all_nil List.drop_zero List.drop_succ_cons List.take_succ_cons List.take_zero List.flatMap_cons Bool.and_eq_true true_and and_true if_true if_false ite_true ite_false forall_eq' forall_eq exists_eq_left exists_eq_left' exists_eq' Value.bool.injEq Value.int.injEq Value.string.injEq Value.pointer.injEq Option.some.injEq AV.sc.injEq AV.op.injEq AV.ip.injEq AV.own.injEq AV.agg.injEq VB.cells.injEq VB.iter.injEq Prod.mk.injEq decide_eq_true_eq decide_eq_false_iff_not Nat.reduceEqDiff Nat.reduceLT Nat.reduceLeDiff Nat.reduceSub Nat.reduceBEq reduceIte Int.reduceLE Int.reduceLT Int.reduceToNat Int.reduceNeg Int.reduceEq Int.reduceNe Int.cast_ofNat_Int Nat.reduceMul Nat.reduceAdd Nat.reduceDiv Nat.reduceMod Nat.reducePow Int.reduceSub Int.reduceAdd Int.reduceMul Int.reducePow Option.isSome_some Option.isSome_none Option.bind_some Option.map_some Option.map_none Option.toList_some Option.toList_none true_or or_true or_false false_or Bool.not_true Bool.not_false Bool.not_eq_true Bool.false_eq_true Bool.not_not false_implies true_implies implies_true Nat.zero_add Nat.add_zero Nat.mul_one Bool.not_eq_true' Bool.true_eq_false Bool.and_true Bool.true_and Bool.and_false Bool.false_and Bool.or_true Bool.true_or Bool.or_false Bool.false_or Option.isNone_some Option.isNone_none Int.reduceBEq Int.reduceBNe beq_self_eq_true bne_self_eq_false beq_iff_eq not_false_eq_true not_true_eq_false Decidable.not_not bne_iff_ne ne_eq Int.toNat_natCast gt_lt ge_le c_add c_mul c_sub c_addn c_nadd c_muln c_nmul c_subn c_nsub c_divn c_modn c_div c_mod c_tdivn c_tmodn c_tdiv c_tmod c_pow c_nn c_beq c_beqn c_bne c_bnen wr64 wr32 wru64 wru32 wru16 wru8 c_if c_if1 c_if2 c_lt c_le c_eq c_ltn c_len c_nlt c_nle c_eqn m_drop m_take Nat.add_sub_cancel_left Nat.add_sub_cancel Int.reduceTMod Int.reduceTDiv Int.reduceMod Int.reduceDiv isC_some hset_ne hdel_ne hdel_hset hdel_hset_ne blkV_nset blkV_ndel hset_hdel gV_t gV_f isGdV_b isGdV_u isBV_u isGdV_g isBV_gt isBV_gf decide_true decide_false Bool.or_eq_false_iff eq_self Nat.lt_irrefl Int.lt_irrefl Nat.le_refl Int.le_refl
attribute [local go_sem high] vops_pk vops_mv vops_as vops_smv pk_and pk_or pk_gand pk_gor pk_orn pk_gorn
attribute [local go_sem] ag3 sz3 zc3 ik3 ag4 sz4 zc4 ag5 sz5 zc5 ik5 ag22 sz22 zc22 ik22 ag23 sz23 el23 zc23 is23 ag28 sz28 el28 zc28 is28 ag32 sz32 el32 zc32 is32 ag41 sz41 ea41 an41 zc41 bo41 eqb neb
section
variable {n : Nat} {h : VH} {K : AV → VH → Prop}
structure RowV where
  nl : Bool
  bs : List Nat
deriving DecidableEq, Inhabited
def rowA (r : RowV) : AV := .isl r.nl r.bs.length (r.bs.map (iv .u8))
def rowC (r : RowV) : List AV := [rowA r]
attribute [local go_sem] rowC rowA
theorem rowC_len (r : RowV) : (rowC r).length = 1 := rfl
structure OkR (r : RowV) : Prop where
  by_ : ∀ b ∈ r.bs, b < 256
  nl : r.nl = true → r.bs = []
def joinR (rs : List RowV) : List Nat := rs.flatMap (·.bs)
theorem getD_mem {α : Type} [Inhabited α] {xs : List α} {i : Nat} (hi : i < xs.length) : xs.getD i default ∈ xs := by
  rw [List.getD_eq_getElem?_getD, List.getElem?_eq_getElem hi]; exact List.getElem_mem hi
theorem take_snocD {α : Type} [Inhabited α] {xs : List α} {i : Nat} (hi : i < xs.length) : xs.take (i + 1) = xs.take i ++ [xs.getD i default] := by
  rw [List.take_succ_eq_append_getElem hi, List.getD_eq_getElem?_getD, List.getElem?_eq_getElem hi]; rfl
theorem drop_consD {α : Type} [Inhabited α] {xs : List α} {i : Nat} (hi : i < xs.length) : xs.drop i = xs.getD i default :: xs.drop (i + 1) := by
  rw [List.drop_eq_getElem_cons hi, List.getD_eq_getElem?_getD, List.getElem?_eq_getElem hi]; rfl
theorem joinR_take {rs : List RowV} {i : Nat} (hi : i < rs.length) : joinR (rs.take (i + 1)) = joinR (rs.take i) ++ (rs.getD i default).bs := by
  unfold joinR
  rw [take_snocD hi, List.flatMap_append]; simp
theorem joinR_le (rs : List RowV) (i : Nat) : (joinR (rs.take i)).length ≤ (joinR rs).length := by
  have e : joinR rs = joinR (rs.take i) ++ joinR (rs.drop i) := by unfold joinR; rw [← List.flatMap_append, List.take_append_drop]
  rw [e, List.length_append]; omega
theorem joinR_mem {rs : List RowV} {r : RowV} (hr : r ∈ rs) : r.bs.length ≤ (joinR rs).length := by
  obtain ⟨i, hi⟩ := List.getElem?_of_mem hr
  have hlt := (List.getElem?_eq_some_iff.1 hi).1
  have h1 := joinR_le rs (i + 1)
  rw [joinR_take hlt, List.length_append, List.getD_eq_getElem?_getD, hi] at h1
  simp only [Option.getD_some] at h1
  omega
theorem flat_take {α : Type} {f : α → List AV} (hf : ∀ x, (f x).length = 1) : ∀ (xs : List α) (i : Nat), (xs.flatMap f).take i = (xs.take i).flatMap f
  | [], i => by simp
  | x :: xs, 0 => by simp
  | x :: xs, i + 1 => by
    have hx := hf x
    match hfx : f x, hx with
    | [a], _ => simp [List.flatMap_cons, hfx, flat_take hf xs i]
theorem flat_drop {α : Type} {f : α → List AV} (hf : ∀ x, (f x).length = 1) : ∀ (xs : List α) (i : Nat), (xs.flatMap f).drop i = (xs.drop i).flatMap f
  | [], i => by simp
  | x :: xs, 0 => by simp
  | x :: xs, i + 1 => by
    have hx := hf x
    match hfx : f x, hx with
    | [a], _ => simp [List.flatMap_cons, hfx, flat_drop hf xs i]
theorem row_len (rs : List RowV) : (rs.flatMap rowC).length = rs.length := by rw [flat_len rowC_len, Nat.mul_one]
theorem row_take (rs : List RowV) (i : Nat) : (rs.flatMap rowC).take i = (rs.take i).flatMap rowC := flat_take rowC_len rs i
theorem row_drop (rs : List RowV) (i : Nat) : (rs.flatMap rowC).drop i = (rs.drop i).flatMap rowC := flat_drop rowC_len rs i
theorem row_get (rs : List RowV) (i : Nat) (hi : i < rs.length) : (rs.flatMap rowC)[i]? = some (rowA (rs.getD i default)) := by
  have h1 : ((rs.flatMap rowC).drop i).head? = some (rowA (rs.getD i default)) := by rw [row_drop, drop_consD hi]; rfl
  rwa [List.head?_drop] at h1
theorem ex_row {rs : List RowV} {i : Nat} {K : AV → Prop} : (∃ v, (rs.flatMap rowC)[i]? = some v ∧ K v) = (i < rs.length ∧ K (rowA (rs.getD i default))) := by
  apply propext
  constructor
  · rintro ⟨v, h1, h2⟩
    have hi : i < rs.length := by rw [← row_len]; exact (List.getElem?_eq_some_iff.1 h1).1
    rw [row_get rs i hi] at h1; cases h1
    exact ⟨hi, h2⟩
  · rintro ⟨hi, h2⟩
    exact ⟨_, row_get rs i hi, h2⟩
attribute [local go_sem] ex_row row_len row_take row_drop
end
end Go.Proofs.YtbmidddpddiopaaDoor.VRow1
