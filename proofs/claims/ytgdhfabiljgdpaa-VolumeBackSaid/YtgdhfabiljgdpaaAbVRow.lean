/- the laws' arguments of chapter 21. -/
import Derived.Test.YtgdhfabiljgdpaaProg
import Derived.Test.YtgdhfabiljgdpaaAbV16
import Derived.Test.YtgdhfabiljgdpaaAbFacts
import Derived.Test.YtgdhfabiljgdpaaAbVRows
import Derived.Test.YtgdhfabiljgdpaaAbVRows2
import Derived.Test.YtgdhfabiljgdpaaAbVSlots
import Derived.Test.YtgdhfabiljgdpaaRows
import Derived.KernelRfl
import Derived.Laws.BitsAllLaws
set_option linter.unusedVariables false
set_option linter.unusedSimpArgs false
set_option maxRecDepth 100000
set_option maxHeartbeats 4000000
namespace Go.Proofs.Ytgdhfabiljgdpaa.VRow
open Go.RowKit Go.Proofs.AbM Go.Proofs.Ytgdhfabiljgdpaa.Facts Go.Proofs.Ytgdhfabiljgdpaa.VRows Go.Proofs.Ytgdhfabiljgdpaa.VRows2 Go.Proofs.Ytgdhfabiljgdpaa.VSlots
attribute [local go_sem] vawp_skip_eq vawp_seq_eq vawp_region_eq vawp_cond_g vawp_block_eq vawp_exit_eq vawp_ret_eq thenV_ret thenV_exit thenV_normal inBlockV_normal inBlockV_ret inBlockV_exit resKV_nil resKV_tmp resKV_cell oneV_one oneV_nil oneV_more initV_nil initV_cons updV_at evv_tmp evv_func evv_global evv_int evv_bool evv_str evv_snil evv_pnil evv_agg ofV3_int ofV3_bool ofV3_str ofV3_snil ofV3_pnil vok_tmp vok_func vok_global vok_int vok_bool vok_str vok_snil vok_pnil vok_agg cloV3_int cloV3_bool cloV3_str cloV3_snil cloV3_pnil voks_nil voks_cons scV_int scV_bool scV_str isBlV_b isBV_t isBV_f lwV_none lwV_sc lwV_agg lwV_tup lwV_isl lwV_own lwV_op lwV_ip lwV_fn lwV_junk vops_nil vops_n vops_s gsN_eq vop dstOk_some dstOk_none pkV_b blkV_set eRead_f eRead_t vLoad_op vLoad_ip vStore_op cells_sc cells_isl cells_own cells_op cells_ip cells_fn cells_agg parts_sc parts_isl parts_own parts_op parts_ip parts_fn parts_agg one_sc one_isl one_own one_op one_ip one_fn vField_op vField_ip ePart_f ePart_t vFieldV_agg vIx_isl vIx_own vIx_op vIx_ip vIxV_agg vIxV_str vLen_str vLen_isl vLen_own vLen_agg bndE_none bndE_int vSlice_isl vSlice_str vBin_add vBin_sub vBin_mul vBin_quo vBin_rem vBin_and vBin_or vBin_xor vBin_andNot vBin_eql vBin_neq vBin_lss vBin_leq vBin_gtr vBin_geq vBin_shr_i8 vBin_shl_i8 vBin_shr_i16 vBin_shl_i16 vBin_shr_i32 vBin_shl_i32 vBin_shr_i64 vBin_shl_i64 vBin_shr_u8 vBin_shl_u8 vBin_shr_u16 vBin_shl_u16 vBin_shr_u32 vBin_shl_u32 vBin_shr_u64 vBin_shl_u64 vBin_seq vBin_sne vBin_isln vBin_opn vBin_ipn ex_sc ex_sc2 ex_sc3 ex_tup calleeV wSc_pb wSc_pi wSc_not wSc_neg wSc_com wSc_min2 wSc_max2 vfold_nil vfold_one vfold_cons vfill_nil vfill_e eFill_s vBuild vBox vAlloc setV_map setV_zs setV_zn setV_s hset_hset eConv_ss vConv_e iv_eq ivI_eq ex_get ex_getI set_iv set_ivI okNil isNilV isSlV hdel_at hset_at List.map_toArray List.map_cons List.map_nil List.nil_append List.cons_append List.append_nil List.toList_toArray List.getElem?_toArray List.getElem_toArray List.getElem_cons_zero List.getElem_cons_succ List.getElem?_cons_zero List.getElem?_cons_succ List.set_cons_zero List.set_cons_succ List.set_set List.length_cons List.length_nil List.length_set List.length_map List.all_cons List.all_nil List.drop_zero List.drop_succ_cons List.take_succ_cons List.take_zero List.flatMap_cons Bool.and_eq_true true_and and_true if_true if_false ite_true ite_false forall_eq' forall_eq exists_eq_left exists_eq_left' exists_eq' Value.bool.injEq Value.int.injEq Value.string.injEq Value.pointer.injEq Option.some.injEq AV.sc.injEq AV.op.injEq AV.ip.injEq AV.own.injEq AV.agg.injEq VB.cells.injEq VB.iter.injEq Prod.mk.injEq decide_eq_true_eq decide_eq_false_iff_not Nat.reduceEqDiff Nat.reduceLT Nat.reduceLeDiff Nat.reduceSub Nat.reduceBEq reduceIte Int.reduceLE Int.reduceLT Int.reduceToNat Int.reduceNeg Int.reduceEq Int.reduceNe Int.cast_ofNat_Int Nat.reduceMul Nat.reduceAdd Nat.reduceDiv Nat.reduceMod Nat.reducePow Int.reduceSub Int.reduceAdd Int.reduceMul Int.reducePow Option.isSome_some Option.isSome_none Option.bind_some Option.map_some Option.map_none Option.toList_some Option.toList_none true_or or_true or_false false_or Bool.not_true Bool.not_false Bool.not_eq_true Bool.false_eq_true Bool.not_not false_implies true_implies implies_true Nat.zero_add Nat.add_zero Nat.mul_one Bool.not_eq_true' Bool.true_eq_false Bool.and_true Bool.true_and Bool.and_false Bool.false_and Bool.or_true Bool.true_or Bool.or_false Bool.false_or Option.isNone_some Option.isNone_none Int.reduceBEq Int.reduceBNe beq_self_eq_true bne_self_eq_false beq_iff_eq not_false_eq_true not_true_eq_false Decidable.not_not bne_iff_ne ne_eq Int.toNat_natCast gt_lt ge_le c_add c_mul c_sub c_addn c_nadd c_muln c_nmul c_subn c_nsub c_divn c_modn c_div c_mod c_tdivn c_tmodn c_tdiv c_tmod c_pow c_nn c_beq c_beqn c_bne c_bnen wr64 wr32 wru64 wru32 wru16 wru8 c_if c_if1 c_if2 c_lt c_le c_eq c_ltn c_len c_nlt c_nle c_eqn m_drop m_take Nat.add_sub_cancel_left Nat.add_sub_cancel Int.reduceTMod Int.reduceTDiv Int.reduceMod Int.reduceDiv isC_some hset_ne hdel_ne hdel_hset hdel_hset_ne blkV_nset blkV_ndel hset_hdel gV_t gV_f isGdV_b isGdV_u isBV_u isGdV_g isBV_gt isBV_gf decide_true decide_false Bool.or_eq_false_iff eq_self Nat.lt_irrefl Int.lt_irrefl Nat.le_refl Int.le_refl
attribute [local go_sem high] vops_pk vops_mv vops_as vops_smv pk_and pk_or pk_gand pk_gor pk_orn pk_gorn
attribute [local go_sem] ag3 sz3 zc3 ik3 ag4 sz4 zc4 ag5 sz5 zc5 ik5 ag9 sz9 zc9 iq9 ag22 sz22 el22 zc22 is22 ag24 sz24 el24 zc24 is24 ag25 sz25 el25 zc25 is25 ag27 sz27 zc27 bo27 ag29 sz29 zc29 ik29 ag41 sz41 zc41 eqs41 nes41 bo41 ag55 sz55 zc55 of27_0 fd27_0 of27_1 fd27_1 of41_0 fd41_0 of41_1 fd41_1 eqb neb
section
variable {W0 : World}
attribute [local go_sem] slotC
theorem rows_rv {v : Value} {xs : List (List Int)} (hs : ∀ h, SlG W0 h 1 (ESl W0 1 1 (EInt .u8)) v xs) : ∃ (nl : Bool) (ys : List RowV), ys.length = xs.length ∧ (∀ o ∈ ys, (∀ b ∈ o.bs, b < 256) ∧ o.bs.length ≤ 140737488351232 ∧ (o.nl = true → o.bs = [])) ∧ RV W0 C0 (.isl nl ys.length (ys.flatMap rowC)) v ∧ (nl = true → ys = []) := by
  obtain ⟨nl, ys, h1, h2, h3, h4⟩ := slG_rv (f := rowC) (R := fun _ (o : RowV) => (∀ b ∈ o.bs, b < 256) ∧ o.bs.length ≤ 140737488351232 ∧ (o.nl = true → o.bs = [])) (hs []) (fun x vs hl hE => by
    obtain ⟨b, rfl, hb, hbl⟩ := hE
    obtain ⟨nlb, bs, e1, e2, e3, e4⟩ := nats_rv (hb []) (fun x hx => wf_u8 hx)
    exact ⟨⟨nlb, bs⟩, ⟨fun b hb => by have := e2 b hb; omega, by show bs.length ≤ _; rw [e1]; omega, e4⟩, RVs.cons e3 RVs.nil⟩)
  refine ⟨nl, ys, h1, fun o ho => ?_, h3, h4⟩
  obtain ⟨i, hi⟩ := List.getElem?_of_mem ho
  have hlt := (List.getElem?_eq_some_iff.1 hi).1
  exact h2 i _ o (List.getElem?_eq_getElem (by omega)) hi
theorem slots_rv {v : Value} {xs : List (Bool × List Int × Unit)} (hs : ∀ h, SlG W0 h 2 (ECons EBool (ECons (ESl W0 1 1 (EInt .u8)) ENil)) v xs) : ∃ (nl : Bool) (ys : List SlotV), ys.length = xs.length ∧ (∀ o ∈ ys, (∀ b ∈ o.row.bs, b < 256) ∧ o.row.bs.length ≤ 140737488351232 ∧ (o.row.nl = true → o.row.bs = [])) ∧ RV W0 C0 (.isl nl ys.length (ys.flatMap slotC)) v ∧ (nl = true → ys = []) := by
  obtain ⟨nl, ys, h1, h2, h3, h4⟩ := slG_rv (f := slotC) (R := fun _ (o : SlotV) => (∀ b ∈ o.row.bs, b < 256) ∧ o.row.bs.length ≤ 140737488351232 ∧ (o.row.nl = true → o.row.bs = [])) (hs []) (fun x vs hl hE => by
    obtain ⟨u1, w1, rfl, h1, u4, w4, rfl, ⟨b, rfl, hb, hbl⟩, rfl⟩ := hE
    have h1' : u1 = [.bool x.1] := h1
    subst h1'
    obtain ⟨nlb, bs, e1, e2, e3, e4⟩ := nats_rv (hb []) (fun x hx => wf_u8 hx)
    exact ⟨⟨x.1, ⟨nlb, bs⟩⟩, ⟨fun b hb => by have := e2 b hb; omega, by show bs.length ≤ _; rw [e1]; omega, e4⟩, RVs.cons (.sc rfl) (RVs.cons e3 RVs.nil)⟩)
  refine ⟨nl, ys, h1, fun o ho => ?_, h3, h4⟩
  obtain ⟨i, hi⟩ := List.getElem?_of_mem ho
  have hlt := (List.getElem?_eq_some_iff.1 hi).1
  exact h2 i _ o (List.getElem?_eq_getElem (by omega)) hi
/-! ### how much is read -/
theorem bulk_one {H : Type} (d : DataW H) : 1 ≤ Rows.uptoBulk d := by
  cases d with
  | lit l => cases l <;> simp [Rows.uptoBulk]
  | nil => simp [Rows.uptoBulk]
  | ptr d => simp [Rows.uptoBulk]
  | slice elems spare => simp [Rows.uptoBulk]
  | agg parts => simp [Rows.uptoBulk]
  | iface t d => simp [Rows.uptoBulk]
  | map entries => simp [Rows.uptoBulk]
  | held h => simp [Rows.uptoBulk]
theorem bulk_len {H : Type} (l : List (DataW H)) : l.length ≤ Rows.uptoBulkAll l := by
  induction l with
  | nil => simp [Rows.uptoBulkAll]
  | cons x r ih => have := bulk_one x; simp only [Rows.uptoBulkAll, List.length_cons]; omega
theorem trod_len {H : Type} {enc : TypeId × Value → H} {P : Program} {t e : TypeId} {a : Option Addr} {n c : Nat} {d : DataW H} {ps : List MemPlace} (hu : P.underlying t = some (.slice e)) (h : DataW.Trod enc P W0 0 (fun _ => true) true t (.slice a n c) d ps) : n ≤ Rows.uptoBulk d := by
  obtain ⟨fuel, h⟩ := h
  change DataW.trod enc P W0 0 (fun _ => true) true fuel t [.slice a n c] = some (d, ps) at h
  cases fuel with
  | zero => simp [DataW.trod] at h
  | succ fuel =>
    simp only [DataW.trod, hu] at h
    split at h <;> try (simp at h; done)
    all_goals (rename_i he; try cases he)
    · exact Nat.zero_le _
    · split at h
      · obtain ⟨elems, h1, h2⟩ := Option.bind_eq_some_iff.1 h
        obtain ⟨rest, h3, h4⟩ := Option.map_eq_some_iff.1 h2
        simp only [Prod.mk.injEq] at h4
        obtain ⟨rfl, _⟩ := h4
        have hel := (mapM_get h1).1
        rw [List.length_range] at hel
        have := bulk_len (elems.map (·.1))
        rw [List.length_map, hel] at this
        simp only [Rows.uptoBulk]
        omega
      · cases h
theorem slice_of {B : Nat} {m : List (Nat × Nat)} {a : Option Addr} {n c : Nat} {v : Value} (h : VR B m (.slice a n c) v) : ∃ a' c', v = .slice a' n c' := by
  cases h with
  | atom h => exact ⟨_, _, rfl⟩
  | sl h1 h2 h3 => exact ⟨_, _, rfl⟩
  | emp => exact ⟨_, _, rfl⟩
theorem arg_len {H : Type} {enc : TypeId × Value → H} {P : Program} {α : Type} {t e : TypeId} {B sz : Nat} {m : List (Nat × Nat)} {E : α → List Value → Prop} {w v : Value} {xs : List α} {d : DataW H} {ps : List MemPlace} (hu : P.underlying t = some (.slice e)) (hs : ∀ h, SlG W0 h sz E w xs) (hv : VR B m w v) (h : DataW.Trod enc P W0 0 (fun _ => true) true t v d ps) : xs.length ≤ Rows.uptoBulk d := by
  obtain ⟨a, c, rfl, _⟩ := hs []
  obtain ⟨a', c', rfl⟩ := slice_of hv
  exact trod_len hu h
end
end Go.Proofs.Ytgdhfabiljgdpaa.VRow
