/- the law SpanFills, over the machine of values. -/
import Derived.Test.YtbmikefignmkdaaProg
import Derived.Test.YtbmikefignmkdaaAbV16
import Derived.Test.YtbmikefignmkdaaAbFacts
import Derived.Test.YtbmikefignmkdaaAbVRow1
import Derived.Test.YtbmikefignmkdaaAbLittleM
import Derived.Test.YtbmikefignmkdaaAbVPut
import Derived.Test.YtbmikefignmkdaaAbVSame
import Derived.Test.YtbmikefignmkdaaAbVJoin
import Derived.Test.YtbmikefignmkdaaAbVSpan
import Derived.Test.YtbmikefignmkdaaAbVSpan2
import Derived.Test.YtbmikefignmkdaaAbVSpan3
import Derived.Test.YtbmikefignmkdaaAbVSpanR
import Derived.Test.YtbmikefignmkdaaAbVLaw
import Derived.KernelRfl
import Derived.Laws.BitsAllLaws
set_option linter.unusedVariables false
set_option linter.unusedSimpArgs false
set_option maxRecDepth 100000
set_option maxHeartbeats 4000000
namespace Go.Proofs.Ytbmikefignmkdaa.VFills
open Go.RowKit Go.Proofs.AbM Go.Proofs.Ytbmikefignmkdaa.Facts Go.Proofs.Ytbmikefignmkdaa.VRow1 Go.Proofs.Ytbmikefignmkdaa.LittleM Go.Proofs.Ytbmikefignmkdaa.VPut Go.Proofs.Ytbmikefignmkdaa.VSame Go.Proofs.Ytbmikefignmkdaa.VJoin Go.Proofs.Ytbmikefignmkdaa.VSpan Go.Proofs.Ytbmikefignmkdaa.VSpan2 Go.Proofs.Ytbmikefignmkdaa.VSpan3 Go.Proofs.Ytbmikefignmkdaa.VSpanR Go.Proofs.Ytbmikefignmkdaa.VLaw
attribute [local go_sem] vawp_skip_eq vawp_seq_eq vawp_region_eq vawp_cond_g vawp_block_eq vawp_exit_eq vawp_ret_eq thenV_ret thenV_exit thenV_normal inBlockV_normal inBlockV_ret inBlockV_exit resKV_nil resKV_tmp resKV_cell oneV_one oneV_nil oneV_more initV_nil initV_cons updV_at evv_tmp evv_func evv_global evv_int evv_bool evv_str evv_snil evv_pnil evv_agg ofV3_int ofV3_bool ofV3_str ofV3_snil ofV3_pnil vok_tmp vok_func vok_global vok_int vok_bool vok_str vok_snil vok_pnil vok_agg cloV3_int cloV3_bool cloV3_str cloV3_snil cloV3_pnil voks_nil voks_cons scV_int scV_bool scV_str isBlV_b isBV_t isBV_f lwV_none lwV_sc lwV_agg lwV_tup lwV_isl lwV_own lwV_op lwV_ip lwV_fn lwV_junk vops_nil vops_n vops_s gsN_eq vop dstOk_some dstOk_none pkV_b blkV_set eRead_f eRead_t vLoad_op vLoad_ip vStore_op cells_sc cells_isl cells_own cells_op cells_ip cells_fn cells_agg parts_sc parts_isl parts_own parts_op parts_ip parts_fn parts_agg one_sc one_isl one_own one_op one_ip one_fn vField_op vField_ip ePart_f ePart_t vFieldV_agg vIx_isl vIx_own vIx_op vIx_ip vIxV_agg vIxV_str vLen_str vLen_isl vLen_own vLen_agg bndE_none bndE_int vSlice_isl vSlice_str vBin_add vBin_sub vBin_mul vBin_quo vBin_rem vBin_and vBin_or vBin_xor vBin_andNot vBin_eql vBin_neq vBin_lss vBin_leq vBin_gtr vBin_geq vBin_shr_i8 vBin_shl_i8 vBin_shr_i16 vBin_shl_i16 vBin_shr_i32 vBin_shl_i32 vBin_shr_i64 vBin_shl_i64 vBin_shr_u8 vBin_shl_u8 vBin_shr_u16 vBin_shl_u16 vBin_shr_u32 vBin_shl_u32 vBin_shr_u64 vBin_shl_u64 vBin_seq vBin_sne vBin_isln vBin_opn vBin_ipn ex_sc ex_sc2 ex_sc3 ex_tup calleeV wSc_pb wSc_pi wSc_not wSc_neg wSc_com wSc_min2 wSc_max2 vfold_nil vfold_one vfold_cons vfill_nil vfill_e eFill_s vBuild vBox vAlloc setV_map setV_zs setV_zn setV_s hset_hset eConv_ss vConv_e iv_eq ivI_eq ex_get ex_getI set_iv set_ivI okNil isNilV isSlV hdel_at hset_at List.map_toArray List.map_cons List.map_nil List.nil_append List.cons_append List.append_nil List.toList_toArray List.getElem?_toArray List.getElem_toArray List.getElem_cons_zero List.getElem_cons_succ List.getElem?_cons_zero List.getElem?_cons_succ List.set_cons_zero List.set_cons_succ List.set_set List.length_cons List.length_nil List.length_set List.length_map List.all_cons List.all_nil List.drop_zero List.drop_succ_cons List.take_succ_cons List.take_zero List.flatMap_cons Bool.and_eq_true true_and and_true if_true if_false ite_true ite_false forall_eq' forall_eq exists_eq_left exists_eq_left' exists_eq' Value.bool.injEq Value.int.injEq Value.string.injEq Value.pointer.injEq Option.some.injEq AV.sc.injEq AV.op.injEq AV.ip.injEq AV.own.injEq AV.agg.injEq VB.cells.injEq VB.iter.injEq Prod.mk.injEq decide_eq_true_eq decide_eq_false_iff_not Nat.reduceEqDiff Nat.reduceLT Nat.reduceLeDiff Nat.reduceSub Nat.reduceBEq reduceIte Int.reduceLE Int.reduceLT Int.reduceToNat Int.reduceNeg Int.reduceEq Int.reduceNe Int.cast_ofNat_Int Nat.reduceMul Nat.reduceAdd Nat.reduceDiv Nat.reduceMod Nat.reducePow Int.reduceSub Int.reduceAdd Int.reduceMul Int.reducePow Option.isSome_some Option.isSome_none Option.bind_some Option.map_some Option.map_none Option.toList_some Option.toList_none true_or or_true or_false false_or Bool.not_true Bool.not_false Bool.not_eq_true Bool.false_eq_true Bool.not_not false_implies true_implies implies_true Nat.zero_add Nat.add_zero Nat.mul_one Bool.not_eq_true' Bool.true_eq_false Bool.and_true Bool.true_and Bool.and_false Bool.false_and Bool.or_true Bool.true_or Bool.or_false Bool.false_or Option.isNone_some Option.isNone_none Int.reduceBEq Int.reduceBNe beq_self_eq_true bne_self_eq_false beq_iff_eq not_false_eq_true not_true_eq_false Decidable.not_not bne_iff_ne ne_eq Int.toNat_natCast gt_lt ge_le c_add c_mul c_sub c_addn c_nadd c_muln c_nmul c_subn c_nsub c_divn c_modn c_div c_mod c_tdivn c_tmodn c_tdiv c_tmod c_pow c_nn c_beq c_beqn c_bne c_bnen wr64 wr32 wru64 wru32 wru16 wru8 c_if c_if1 c_if2 c_lt c_le c_eq c_ltn c_len c_nlt c_nle c_eqn m_drop m_take Nat.add_sub_cancel_left Nat.add_sub_cancel Int.reduceTMod Int.reduceTDiv Int.reduceMod Int.reduceDiv isC_some hset_ne hdel_ne hdel_hset hdel_hset_ne blkV_nset blkV_ndel hset_hdel gV_t gV_f isGdV_b isGdV_u isBV_u isGdV_g isBV_gt isBV_gf decide_true decide_false Bool.or_eq_false_iff eq_self Nat.lt_irrefl Int.lt_irrefl Nat.le_refl Int.le_refl
attribute [local go_sem high] vops_pk vops_mv vops_as vops_smv pk_and pk_or pk_gand pk_gor pk_orn pk_gorn
attribute [local go_sem] ag3 sz3 zc3 ik3 ag4 sz4 zc4 ag5 sz5 zc5 ik5 ag9 sz9 zc9 iq9 ag22 sz22 el22 zc22 is22 ag25 sz25 zc25 pt25 ag26 sz26 zc26 ik26 ag29 sz29 el29 zc29 is29 ag31 sz31 zc31 bo31 ag33 sz33 el33 zc33 is33 ag35 sz35 zc35 bo35 ag37 sz37 zc37 eqs37 nes37 bo37 ag51 sz51 el51 zc51 is51 ag59 sz59 zc59 ik59 ag61 sz61 zc61 bo61 ag67 sz67 zc67 of31_0 fd31_0 of31_1 fd31_1 of35_0 fd35_0 of35_1 fd35_1 of37_0 fd37_0 of37_1 fd37_1 of61_0 fd61_0 of61_1 fd61_1 eqb neb
section
variable {n : Nat} {h : VH} {K : AV → VH → Prop}
attribute [local go_sem] rowC rowA ex_row row_len row_take row_drop Nat.sub_zero Nat.zero_le refA_eq opC op_len
def plC (p : Nat × Nat) : List AV := [(.sc (.int .i64 ((p.1 : Nat)))), (.sc (.int .i64 ((p.2 : Nat))))]
theorem plC_len (p : Nat × Nat) : (plC p).length = 2 := rfl
theorem pl_len (ps : List (Nat × Nat)) : (ps.flatMap plC).length = ps.length * 2 := flat_len plC_len ps
theorem pl_at (ps : List (Nat × Nat)) (i : Nat) (hi : i < ps.length) : ((ps.flatMap plC).drop (i * 2)).take 2 = plC (ps.getD i default) := flat_get plC_len default ps i hi
attribute [local go_sem] plC pl_len
/-- A record stands where it is said to. -/
def InvP (S : List RowV × List Nat) (p : Nat × Nat) (b : List Nat) : Prop := p.1 < (rowsS S).length ∧ p.2 + b.length ≤ ((rowsS S).getD p.1 default).bs.length ∧ (((rowsS S).getD p.1 default).bs.drop p.2).take b.length = b
/-- What is grown: the volumes ahead stay, the last one is longer or stays too. -/
structure Grow (S T : List RowV × List Nat) : Prop where
  len : (rowsS S).length ≤ (rowsS T).length
  at_ : ∀ i, i < (rowsS S).length → ∃ c, ((rowsS T).getD i default).bs = ((rowsS S).getD i default).bs ++ c
theorem Grow.refl (S : List RowV × List Nat) : Grow S S := ⟨Nat.le_refl _, fun i _ => ⟨[], by simp⟩⟩
theorem Grow.trans {S T U : List RowV × List Nat} (a : Grow S T) (b : Grow T U) : Grow S U := ⟨Nat.le_trans a.len b.len, fun i hi => by
  obtain ⟨c, hc⟩ := a.at_ i hi
  obtain ⟨d, hd⟩ := b.at_ i (Nat.lt_of_lt_of_le hi a.len)
  exact ⟨c ++ d, by rw [hd, hc, List.append_assoc]⟩⟩
theorem grow_app (X : List RowV) (L c : List Nat) : Grow (X, L) (X, L ++ c) := by
  refine ⟨by simp [rowsS], fun i hi => ?_⟩
  simp only [rowsS, List.length_append, List.length_cons, List.length_nil] at hi
  unfold rowsS
  by_cases h : i < X.length
  · exact ⟨[], by rw [getD_snoc h, getD_snoc h]; simp⟩
  · obtain rfl : i = X.length := by omega
    exact ⟨c, by rw [getD_last, getD_last]⟩
theorem grow_new (X : List RowV) (L c : List Nat) : Grow (X, L) (X ++ [⟨false, L⟩], c) := by
  refine ⟨by simp [rowsS], fun i hi => ?_⟩
  have hi2 : i < (X ++ [(⟨false, L⟩ : RowV)]).length := hi
  refine ⟨[], ?_⟩
  unfold rowsS
  rw [getD_snoc hi2]; simp
theorem grow_lay (s : Nat) (X : List RowV) (L b : List Nat) : Grow (X, L) (layW s X L b) := by
  unfold layW
  split
  · exact grow_new X L b
  · exact grow_app X L b
theorem grow_data (s : Nat) : ∀ (b : List Nat) (X : List RowV) (L : List Nat), Grow (X, L) (dataW s (X, L) b)
  | [], X, L => .refl _
  | c :: b, X, L => by
    show Grow _ (dataW s (byteW s (X, L) c) b)
    unfold byteW
    split
    · exact (grow_new X L [c]).trans (grow_data s b _ _)
    · exact (grow_app X L [c]).trans (grow_data s b _ _)
theorem InvP.grow {S T : List RowV × List Nat} (hg : Grow S T) {p : Nat × Nat} {b : List Nat} (hp : InvP S p b) : InvP T p b := by
  obtain ⟨h1, h2, h3⟩ := hp
  obtain ⟨c, hc⟩ := hg.at_ _ h1
  refine ⟨Nat.lt_of_lt_of_le h1 hg.len, by rw [hc, List.length_append]; omega, ?_⟩
  rw [hc, List.drop_append_of_le_length (by omega), List.take_append_of_le_length (by rw [List.length_drop]; omega)]
  exact h3
theorem inv_new (s : Nat) (X : List RowV) (L b : List Nat) : InvP (layW s X L b) (placeW s X.length L.length b.length) b := by
  unfold layW placeW
  split
  · refine ⟨by simp [rowsS], ?_⟩
    have : (rowsS (X ++ [(⟨false, L⟩ : RowV)], b)).getD (X.length + 1) default = ⟨false, b⟩ := by
      simp [rowsS]
    rw [this]
    simp
  · refine ⟨by simp [rowsS], ?_⟩
    have : (rowsS (X, L ++ b)).getD X.length default = ⟨false, L ++ b⟩ := getD_last
    rw [this]
    simp
theorem join_lay (s : Nat) (X : List RowV) (L b : List Nat) : joinR (rowsS (layW s X L b)) = joinR (rowsS (X, L)) ++ b := by
  unfold layW rowsS joinR
  split <;> simp
theorem join_data (s : Nat) : ∀ (b : List Nat) (X : List RowV) (L : List Nat), joinR (rowsS (dataW s (X, L) b)) = joinR (rowsS (X, L)) ++ b
  | [], X, L => by simp [dataW]
  | c :: b, X, L => by
    show joinR (rowsS (dataW s (byteW s (X, L) c) b)) = _
    unfold byteW
    split
    · rw [join_data s b]; simp [rowsS, joinR]
    · rw [join_data s b]; simp [rowsS, joinR]
theorem few_u {nl : Bool} {l : Nat} {os : List OpS} {bb : Bool} (hbb : fewO os = bb) (hl : l = os.length) (hb : os.length ≤ 140737488355328) (hr : ∀ o ∈ os, o.b.bs.length ≤ 140737488355328) (hK : K (.sc (.bool (bb))) h) : VC Try.prog GL (n + 1) 8 [.isl nl l (os.flatMap opC)] h K := by
  subst hbb; exact few_v hl hb hr hK
/-- No volume is empty. -/
structure InvN (S : List RowV × List Nat) : Prop where
  hL : 0 < S.2.length
  hO : ∀ x ∈ S.1, 0 < x.bs.length
theorem InvN.lay {sz : Nat} {X : List RowV} {L b : List Nat} (h : InvN (X, L)) (hb : 0 < b.length) : InvN (layW sz X L b) := by
  unfold layW
  split
  · refine ⟨hb, fun x hx => ?_⟩
    rcases List.mem_append.1 hx with h1 | h1
    · exact h.hO x h1
    · rw [List.mem_singleton] at h1; subst h1; exact h.hL
  · exact ⟨by have := h.hL; simp at this ⊢; omega, h.hO⟩
theorem InvN.data {sz : Nat} : ∀ {b : List Nat} {X : List RowV} {L : List Nat}, InvN (X, L) → InvN (dataW sz (X, L) b)
  | [], X, L, h => h
  | c :: b, X, L, h => by
    show InvN (dataW sz (byteW sz (X, L) c) b)
    unfold byteW
    split
    · exact InvN.data ⟨by simp, fun x hx => by
        rcases List.mem_append.1 hx with h2 | h2
        · exact h.hO x h2
        · rw [List.mem_singleton] at h2; subst h2; exact h.hL⟩
    · exact InvN.data ⟨by simp, h.hO⟩
theorem vConvO {P : Program} {t e' : TypeId} {j l : Nat} {cs : List AV} (hb : isB8 P t = true) (hj : h j = some (.cells e' false cs)) (hK : K (.own j 0 l) h) : vConv P t t (.own j 0 l) h K := by
  obtain ⟨e, h1, h2⟩ := isB8_inv hb
  exact .inr ⟨rfl, e, e', cs, h1, h2, hj, .inl hK⟩
/-- What the law's own rows hold. -/
structure Own3 (h0 : VH) (a p q j r k : Nat) (all : List Nat) (ps : List (Nat × Nat)) (rs : List RowV) : Prop where
  fa : h0 a = some (.cells 5 false (all.map (iv .u8)))
  fp : h0 p = some (.cells 37 false (ps.flatMap plC))
  fq : h0 q = some (.cells 33 false (rs.flatMap rowC))
  ap : a ≠ p
  aq : a ≠ q
  pq : p ≠ q
  fj : h0 j = none
  fr : h0 r = none
  fk : h0 k = none
theorem WrS_ne {h0 : VH} {j r k s p : Nat} {X : List RowV} {L : List Nat} (h1 : p ≠ j) (h2 : p ≠ r) (h3 : p ≠ k) : WrS h0 j r k s X L p = h0 p := by
  unfold WrS
  rw [hset_ne _ _ h1, hset_ne _ _ h2, hset_ne _ _ h3]
theorem sn_ne {a b : Nat} {B : VB} (ha : h a = some B) (hb : h b = none) : a ≠ b := by rintro rfl; rw [ha] at hb; cases hb
section
variable {h0 : VH} {a p q j r k s : Nat} {all : List Nat} {ps : List (Nat × Nat)} {rs : List RowV} {X : List RowV} {L : List Nat}
theorem Own3.wa (O : Own3 h0 a p q j r k all ps rs) : WrS h0 j r k s X L a = some (.cells 5 false (all.map (iv .u8))) := (WrS_ne (sn_ne O.fa O.fj) (sn_ne O.fa O.fr) (sn_ne O.fa O.fk)).trans O.fa
theorem Own3.wp (O : Own3 h0 a p q j r k all ps rs) : WrS h0 j r k s X L p = some (.cells 37 false (ps.flatMap plC)) := (WrS_ne (sn_ne O.fp O.fj) (sn_ne O.fp O.fr) (sn_ne O.fp O.fk)).trans O.fp
theorem Own3.wq (O : Own3 h0 a p q j r k all ps rs) : WrS h0 j r k s X L q = some (.cells 33 false (rs.flatMap rowC)) := (WrS_ne (sn_ne O.fq O.fj) (sn_ne O.fq O.fr) (sn_ne O.fq O.fk)).trans O.fq
theorem Own3.rk (O : Own3 h0 a p q j r k all ps rs) {r' k' : Nat} (hr : h0 r' = none) (hk : h0 k' = none) : Own3 h0 a p q j r' k' all ps rs := ⟨O.fa, O.fp, O.fq, O.ap, O.aq, O.pq, O.fj, hr, hk⟩
theorem Own3.ua (O : Own3 h0 a p q j r k all ps rs) {a' : Nat} (h : hdel (WrS h0 j r k s X L) a a' = none) (x : List Nat) : ∃ h1, hset (hdel (WrS h0 j r k s X L) a) a' (.cells 5 false (x.map (iv .u8))) = WrS h1 j r k s X L ∧ Own3 h1 a' p q j r k x ps rs := by
  have d1 := sn_ne O.fa O.fj
  have d2 := sn_ne O.fa O.fr
  have d3 := sn_ne O.fa O.fk
  rw [WrS_hdel d1 d2 d3] at h ⊢
  rw [WrS_none] at h
  obtain ⟨e1, e2, e3, e4⟩ := h
  have hp : hdel h0 a p = _ := (hdel_ne h0 (Ne.symm O.ap)).trans O.fp
  have hq : hdel h0 a q = _ := (hdel_ne h0 (Ne.symm O.aq)).trans O.fq
  have n1 := sn_ne hp e4
  have n2 := sn_ne hq e4
  refine ⟨_, WrS_hset e1 e2 e3, hset_at _ _ _, (hset_ne _ _ n1).trans hp, (hset_ne _ _ n2).trans hq, Ne.symm n1, Ne.symm n2, O.pq, ?_, ?_, ?_⟩
  · rw [hset_ne _ _ (Ne.symm e1), hdel_ne _ (Ne.symm d1)]; exact O.fj
  · rw [hset_ne _ _ (Ne.symm e2), hdel_ne _ (Ne.symm d2)]; exact O.fr
  · rw [hset_ne _ _ (Ne.symm e3), hdel_ne _ (Ne.symm d3)]; exact O.fk
theorem Own3.up (O : Own3 h0 a p q j r k all ps rs) {p' : Nat} (h : hdel (WrS h0 j r k s X L) p p' = none) (x : List (Nat × Nat)) : ∃ h1, hset (hdel (WrS h0 j r k s X L) p) p' (.cells 37 false (x.flatMap plC)) = WrS h1 j r k s X L ∧ Own3 h1 a p' q j r k all x rs := by
  have d1 := sn_ne O.fp O.fj
  have d2 := sn_ne O.fp O.fr
  have d3 := sn_ne O.fp O.fk
  rw [WrS_hdel d1 d2 d3] at h ⊢
  rw [WrS_none] at h
  obtain ⟨e1, e2, e3, e4⟩ := h
  have ha : hdel h0 p a = _ := (hdel_ne h0 O.ap).trans O.fa
  have hq : hdel h0 p q = _ := (hdel_ne h0 (Ne.symm O.pq)).trans O.fq
  have n1 := sn_ne ha e4
  have n2 := sn_ne hq e4
  refine ⟨_, WrS_hset e1 e2 e3, (hset_ne _ _ n1).trans ha, hset_at _ _ _, (hset_ne _ _ n2).trans hq, n1, O.aq, Ne.symm n2, ?_, ?_, ?_⟩
  · rw [hset_ne _ _ (Ne.symm e1), hdel_ne _ (Ne.symm d1)]; exact O.fj
  · rw [hset_ne _ _ (Ne.symm e2), hdel_ne _ (Ne.symm d2)]; exact O.fr
  · rw [hset_ne _ _ (Ne.symm e3), hdel_ne _ (Ne.symm d3)]; exact O.fk
theorem Own3.uq (O : Own3 h0 a p q j r k all ps rs) {q' : Nat} (h : hdel (WrS h0 j r k s X L) q q' = none) (x : List RowV) : ∃ h1, hset (hdel (WrS h0 j r k s X L) q) q' (.cells 33 false (x.flatMap rowC)) = WrS h1 j r k s X L ∧ Own3 h1 a p q' j r k all ps x := by
  have d1 := sn_ne O.fq O.fj
  have d2 := sn_ne O.fq O.fr
  have d3 := sn_ne O.fq O.fk
  rw [WrS_hdel d1 d2 d3] at h ⊢
  rw [WrS_none] at h
  obtain ⟨e1, e2, e3, e4⟩ := h
  have ha : hdel h0 q a = _ := (hdel_ne h0 O.aq).trans O.fa
  have hp : hdel h0 q p = _ := (hdel_ne h0 O.pq).trans O.fp
  have n1 := sn_ne ha e4
  have n2 := sn_ne hp e4
  refine ⟨_, WrS_hset e1 e2 e3, (hset_ne _ _ n1).trans ha, (hset_ne _ _ n2).trans hp, hset_at _ _ _, O.ap, n1, n2, ?_, ?_, ?_⟩
  · rw [hset_ne _ _ (Ne.symm e1), hdel_ne _ (Ne.symm d1)]; exact O.fj
  · rw [hset_ne _ _ (Ne.symm e2), hdel_ne _ (Ne.symm d2)]; exact O.fr
  · rw [hset_ne _ _ (Ne.symm e3), hdel_ne _ (Ne.symm d3)]; exact O.fk
end
/-- All that holds between two steps. -/
structure InvF (s : Nat) (S : List RowV × List Nat) (i : Nat) (all : List Nat) (ps : List (Nat × Nat)) (rs : List RowV) : Prop where
  s : InvS s S (60 * i)
  n : InvN S
  f : 4 ≤ ((rowsS S).getD 0 default).bs.length
  ja : all = joinR (rowsS S)
  len : ps.length = rs.length
  at_ : ∀ m, m < ps.length → InvP S (ps.getD m default) (rs.getD m default).bs
  b1 : ps.length ≤ i
  b2 : all.length ≤ 4 + 60 * i
theorem InvF.skip {s i : Nat} {S : List RowV × List Nat} {all : List Nat} {ps : List (Nat × Nat)} {rs : List RowV} (h : InvF s S i all ps rs) : InvF s S (i + 1) all ps rs := ⟨h.s.mono (by omega), h.n, h.f, h.ja, h.len, h.at_, by have := h.b1; omega, by have := h.b2; omega⟩
theorem InvF.data {s i : Nat} {X : List RowV} {L b all : List Nat} {ps : List (Nat × Nat)} {rs : List RowV} (hs : 1 ≤ s) (hb : b.length ≤ 60) (h : InvF s (X, L) i all ps rs) : InvF s (dataW s (X, L) b) (i + 1) (all ++ b) ps rs := by
  have hg := grow_data s b X L
  refine ⟨(h.s.data hs).mono (by omega), h.n.data, ?_, by rw [join_data, h.ja], h.len, fun m hm => (h.at_ m hm).grow hg, by have := h.b1; omega, by have := h.b2; simp; omega⟩
  obtain ⟨c, hc⟩ := hg.at_ 0 (by rw [rowsS_len]; omega)
  have := h.f
  rw [hc, List.length_append]; omega
theorem InvF.lay {s i : Nat} {X : List RowV} {L b all : List Nat} {ps : List (Nat × Nat)} {rs : List RowV} {nl : Bool} (hb0 : 0 < b.length) (hbs : b.length ≤ s) (hb : b.length ≤ 60) (h : InvF s (X, L) i all ps rs) : InvF s (layW s X L b) (i + 1) (all ++ b) (ps ++ [placeW s X.length L.length b.length]) (rs ++ [⟨nl, b⟩]) := by
  have hg := grow_lay s X L b
  refine ⟨(h.s.lay hbs).mono (by omega), h.n.lay hb0, ?_, by rw [join_lay, h.ja], by simp [h.len], fun m hm => ?_, by have := h.b1; simp; omega, by have := h.b2; simp; omega⟩
  · obtain ⟨c, hc⟩ := hg.at_ 0 (by rw [rowsS_len]; omega)
    have := h.f
    rw [hc, List.length_append]; omega
  · by_cases hm2 : m < ps.length
    · have h1 : (ps ++ [placeW s X.length L.length b.length]).getD m default = ps.getD m default := by
        rw [List.getD_eq_getElem?_getD, List.getD_eq_getElem?_getD, List.getElem?_append_left hm2]
      rw [h1, getD_snoc (by rw [← h.len]; exact hm2)]
      exact (h.at_ m hm2).grow hg
    · have hm3 : m = ps.length := by simp at hm; omega
      subst hm3
      have h1 : (ps ++ [placeW s X.length L.length b.length]).getD ps.length default = placeW s X.length L.length b.length := by
        rw [List.getD_eq_getElem?_getD, List.getElem?_append_right (Nat.le_refl _)]; simp
      have h2 : (rs ++ [(⟨nl, b⟩ : RowV)]).getD ps.length default = ⟨nl, b⟩ := by rw [h.len]; exact getD_last
      rw [h1, h2]
      exact inv_new s X L b
theorem gV_ne {a b : Int} {v : AV} (h : a ≠ b) : gV (a != b) v = v := by
  have : (a != b) = true := bne_iff_ne.2 h
  rw [this]; rfl
theorem fills_v {sz : Int} {nl : Bool} {l : Nat} {os : List OpS} (hl : l = os.length) (hb : os.length ≤ 140737488355328) (hro : ∀ o ∈ os, o.b.bs.length ≤ 140737488355328) (hK : ∀ h', K (.sc (.bool (true))) h') : VC Try.prog GL (n + 8) 4 [(.sc (.int .i64 (sz))), .isl nl l (os.flatMap opC)] h K := by
  refine VC_go Try.func4 rfl (by decide) Try.ntmps4 Try.results4 rfl fun Q hq hn => ?_
  subst hl
  repeat (first | (simp (maxSteps := 1000000) only [↓reduceIte, go_sem]) | (simp (maxSteps := 1000000) (disch := first | omega | assumption) only [BB]) | with_reducible refine Gst.now ?_ | with_reducible refine vawp_draw mixed (by kernel_rfl) ?_ | with_reducible first | refine lwV_out ?_ | refine lwV_out0 ?_ | refine lkC_out ?_ | refine And.intro (by omega) ?_ | fail)
  with_reducible refine call_pure ?_
  refine alive_v fun _ => ⟨rfl, ?_⟩
  repeat (first | (simp (maxSteps := 1000000) only [↓reduceIte, go_sem]) | (simp (maxSteps := 1000000) (disch := first | omega | assumption) only [BB]) | with_reducible refine Gst.now ?_ | with_reducible refine vawp_draw mixed (by kernel_rfl) ?_ | with_reducible first | refine lwV_out ?_ | refine lwV_out0 ?_ | refine lkC_out ?_ | refine And.intro (by omega) ?_ | fail)
  refine call_ok (new_v (fun hc => ?_) (fun h5 h16 j r k n1 n2 n3 hj hr hk => ?_))
  · repeat (first | (simp (maxSteps := 1000000) only [↓reduceIte, go_sem]) | (simp (maxSteps := 1000000) (disch := first | omega | assumption) only [BB]) | with_reducible refine vawp_draw mixed (by kernel_rfl) ?_ | with_reducible first | refine lwV_out ?_ | refine lwV_out0 ?_ | refine lkC_out ?_ | refine And.intro (by omega) ?_ | fail)
    first | (with_reducible refine Gst.now ?_) | (with_reducible refine lkC_out ?_; simp only [vawp_skip_eq, thenV_normal]; with_reducible refine Gst.now ?_) | (with_reducible refine lkC_out ?_)
    try simp only [vawp_seq_eq, vawp_block_eq]
    with_reducible refine vawp_regq ?_
    simp only [List.toList_toArray]
    repeat (first | (apply vopsQ_pk; (case hd => rfl); (case h1 => simp (disch := first | omega | assumption) only [↓reduceIte, go_sem]); (case h2 => simp (disch := first | omega | assumption) only [↓reduceIte, go_sem]); (case h3 => simp (disch := first | omega | assumption) only [↓reduceIte, go_sem]); (case hb => simp (disch := first | omega | assumption) only [↓reduceIte, go_sem]); (try simp (disch := first | omega | assumption) only [↓reduceIte, go_sem])) | (apply vopsQ_n; (case hd => rfl); (case hq => (intro K' hk'; repeat (first | simp (maxSteps := 4000000) (disch := first | omega | assumption) only [↓reduceIte, go_sem] | with_reducible refine Gst.now ?_ | with_reducible refine vawp_draw mixed (by kernel_rfl) ?_ | with_reducible first | refine lwV_out ?_ | refine lwV_out0 ?_ | refine lkC_out ?_ | refine And.intro (by omega) ?_ | fail); exact hk'))) | (apply vopsQ_gt; (case hd => rfl); (case h1 => rfl); (case h2 => rfl); (case h3 => simp (disch := first | omega | assumption) only [↓reduceIte, go_sem]); (case hq => (intro K' hk'; repeat (first | simp (maxSteps := 4000000) (disch := first | omega | assumption) only [↓reduceIte, go_sem] | with_reducible refine Gst.now ?_ | with_reducible refine vawp_draw mixed (by kernel_rfl) ?_ | with_reducible first | refine lwV_out ?_ | refine lwV_out0 ?_ | refine lkC_out ?_ | refine And.intro (by omega) ?_ | fail); exact hk'))) | (apply vopsQ_gf'; (case hd => rfl); (case h1 => rfl); (case h2 => rfl); (case h3 => simp (disch := first | omega | assumption) only [↓reduceIte, go_sem])) | (apply vopsQ_gj; (case hd => rfl); (case h1 => rfl); (case h2 => rfl); (case h3 => simp (disch := first | omega | assumption) only [↓reduceIte, go_sem])) | (apply vopsQ_gpk; (case hd => rfl); (case h1 => rfl); (case h2 => rfl); (case h3 => simp (disch := first | omega | assumption) only [↓reduceIte, go_sem]); (case k1 => simp (disch := first | omega | assumption) only [↓reduceIte, go_sem]); (case k2 => simp (disch := first | omega | assumption) only [↓reduceIte, go_sem]); (case k3 => simp (disch := first | omega | assumption) only [↓reduceIte, go_sem]); (case hb => (intro hc; (try simp (disch := first | omega | assumption) only [↓reduceIte, go_sem] at hc); simp (disch := first | omega | assumption) only [↓reduceIte, go_sem, hc])); (try simp (disch := first | omega | assumption) only [↓reduceIte, go_sem])) | (apply vopsQ_gu; (case hd => rfl); (case h1 => rfl); (case h2 => rfl); (case h3 => simp (disch := first | omega | assumption) only [↓reduceIte, go_sem]); (case hq => (intro hc K' hk'; (try simp (disch := first | omega | assumption) only [↓reduceIte, go_sem] at hc); repeat (first | simp (maxSteps := 4000000) (disch := first | omega | assumption) only [↓reduceIte, go_sem, hc] | with_reducible refine Gst.now ?_ | with_reducible refine vawp_draw mixed (by kernel_rfl) ?_ | with_reducible first | refine lwV_out ?_ | refine lwV_out0 ?_ | refine lkC_out ?_ | refine And.intro (by omega) ?_ | fail); exact hk')); (try simp (disch := first | omega | assumption) only [↓reduceIte, go_sem])) | fail)
    first | (apply vopsQ_n; (case hd => rfl)) | (apply vopsQ_gt; (case hd => rfl); (case h1 => rfl); (case h2 => rfl); (case h3 => simp (disch := first | omega | assumption) only [↓reduceIte, go_sem]))
    case hq => (intro K' hk'; repeat (first | simp (maxSteps := 4000000) (disch := first | omega | assumption) only [↓reduceIte, go_sem] | with_reducible refine Gst.now ?_ | with_reducible refine vawp_draw mixed (by kernel_rfl) ?_ | with_reducible first | refine lwV_out ?_ | refine lwV_out0 ?_ | refine lkC_out ?_ | refine And.intro (by omega) ?_ | fail); refine call_ok ?_; refine few_v rfl hb hro ?_; exact hk')
    repeat (first | (apply vopsQ_pk; (case hd => rfl); (case h1 => simp (disch := first | omega | assumption) only [↓reduceIte, go_sem]); (case h2 => simp (disch := first | omega | assumption) only [↓reduceIte, go_sem]); (case h3 => simp (disch := first | omega | assumption) only [↓reduceIte, go_sem]); (case hb => simp (disch := first | omega | assumption) only [↓reduceIte, go_sem]); (try simp (disch := first | omega | assumption) only [↓reduceIte, go_sem])) | (apply vopsQ_n; (case hd => rfl); (case hq => (intro K' hk'; repeat (first | simp (maxSteps := 4000000) (disch := first | omega | assumption) only [↓reduceIte, go_sem] | with_reducible refine Gst.now ?_ | with_reducible refine vawp_draw mixed (by kernel_rfl) ?_ | with_reducible first | refine lwV_out ?_ | refine lwV_out0 ?_ | refine lkC_out ?_ | refine And.intro (by omega) ?_ | fail); exact hk'))) | (apply vopsQ_gt; (case hd => rfl); (case h1 => rfl); (case h2 => rfl); (case h3 => simp (disch := first | omega | assumption) only [↓reduceIte, go_sem]); (case hq => (intro K' hk'; repeat (first | simp (maxSteps := 4000000) (disch := first | omega | assumption) only [↓reduceIte, go_sem] | with_reducible refine Gst.now ?_ | with_reducible refine vawp_draw mixed (by kernel_rfl) ?_ | with_reducible first | refine lwV_out ?_ | refine lwV_out0 ?_ | refine lkC_out ?_ | refine And.intro (by omega) ?_ | fail); exact hk'))) | (apply vopsQ_gf'; (case hd => rfl); (case h1 => rfl); (case h2 => rfl); (case h3 => simp (disch := first | omega | assumption) only [↓reduceIte, go_sem])) | (apply vopsQ_gj; (case hd => rfl); (case h1 => rfl); (case h2 => rfl); (case h3 => simp (disch := first | omega | assumption) only [↓reduceIte, go_sem])) | (apply vopsQ_gpk; (case hd => rfl); (case h1 => rfl); (case h2 => rfl); (case h3 => simp (disch := first | omega | assumption) only [↓reduceIte, go_sem]); (case k1 => simp (disch := first | omega | assumption) only [↓reduceIte, go_sem]); (case k2 => simp (disch := first | omega | assumption) only [↓reduceIte, go_sem]); (case k3 => simp (disch := first | omega | assumption) only [↓reduceIte, go_sem]); (case hb => (intro hc; (try simp (disch := first | omega | assumption) only [↓reduceIte, go_sem] at hc); simp (disch := first | omega | assumption) only [↓reduceIte, go_sem, hc])); (try simp (disch := first | omega | assumption) only [↓reduceIte, go_sem])) | (apply vopsQ_gu; (case hd => rfl); (case h1 => rfl); (case h2 => rfl); (case h3 => simp (disch := first | omega | assumption) only [↓reduceIte, go_sem]); (case hq => (intro hc K' hk'; (try simp (disch := first | omega | assumption) only [↓reduceIte, go_sem] at hc); repeat (first | simp (maxSteps := 4000000) (disch := first | omega | assumption) only [↓reduceIte, go_sem, hc] | with_reducible refine Gst.now ?_ | with_reducible refine vawp_draw mixed (by kernel_rfl) ?_ | with_reducible first | refine lwV_out ?_ | refine lwV_out0 ?_ | refine lkC_out ?_ | refine And.intro (by omega) ?_ | fail); exact hk')); (try simp (disch := first | omega | assumption) only [↓reduceIte, go_sem])) | fail)
    simp only [vopsQ_nil]
    repeat (first | (simp (maxSteps := 1000000) only [↓reduceIte, go_sem]) | (simp (maxSteps := 1000000) (disch := first | omega | assumption) only [BB]) | with_reducible refine Gst.now ?_ | with_reducible refine vawp_draw mixed (by kernel_rfl) ?_ | with_reducible first | refine lwV_out ?_ | refine lwV_out0 ?_ | refine lkC_out ?_ | refine And.intro (by omega) ?_ | fail)
    refine hq _ _ ?_
    repeat (first | (simp (maxSteps := 1000000) only [↓reduceIte, go_sem]) | (simp (maxSteps := 1000000) (disch := first | omega | assumption) only [BB]) | with_reducible refine Gst.now ?_ | with_reducible refine vawp_draw mixed (by kernel_rfl) ?_ | with_reducible first | refine lwV_out ?_ | refine lwV_out0 ?_ | refine lkC_out ?_ | refine And.intro (by omega) ?_ | fail)
    exact .now (hK _)
  · obtain ⟨s, rfl⟩ := Int.eq_ofNat_of_zero_le (show 0 ≤ sz by omega)
    simp only [Int.toNat_natCast, Int.ofNat_eq_natCast] at *
    cases hf : fewO os with
    | false =>
      repeat (first | (simp (maxSteps := 1000000) only [↓reduceIte, go_sem]) | (simp (maxSteps := 1000000) (disch := first | omega | assumption) only [BB]) | with_reducible refine vawp_draw mixed (by kernel_rfl) ?_ | with_reducible first | refine lwV_out ?_ | refine lwV_out0 ?_ | refine lkC_out ?_ | refine And.intro (by omega) ?_ | fail)
      first | (with_reducible refine Gst.now ?_) | (with_reducible refine lkC_out ?_; simp only [vawp_skip_eq, thenV_normal]; with_reducible refine Gst.now ?_) | (with_reducible refine lkC_out ?_)
      try simp only [vawp_seq_eq, vawp_block_eq]
      with_reducible refine vawp_regq ?_
      simp only [List.toList_toArray]
      repeat (first | (apply vopsQ_pk; (case hd => rfl); (case h1 => simp (disch := first | omega | assumption) only [↓reduceIte, go_sem]); (case h2 => simp (disch := first | omega | assumption) only [↓reduceIte, go_sem]); (case h3 => simp (disch := first | omega | assumption) only [↓reduceIte, go_sem]); (case hb => simp (disch := first | omega | assumption) only [↓reduceIte, go_sem]); (try simp (disch := first | omega | assumption) only [↓reduceIte, go_sem])) | (apply vopsQ_n; (case hd => rfl); (case hq => (intro K' hk'; repeat (first | simp (maxSteps := 4000000) (disch := first | omega | assumption) only [↓reduceIte, go_sem] | with_reducible refine Gst.now ?_ | with_reducible refine vawp_draw mixed (by kernel_rfl) ?_ | with_reducible first | refine lwV_out ?_ | refine lwV_out0 ?_ | refine lkC_out ?_ | refine And.intro (by omega) ?_ | fail); exact hk'))) | (apply vopsQ_gt; (case hd => rfl); (case h1 => rfl); (case h2 => rfl); (case h3 => simp (disch := first | omega | assumption) only [↓reduceIte, go_sem]); (case hq => (intro K' hk'; repeat (first | simp (maxSteps := 4000000) (disch := first | omega | assumption) only [↓reduceIte, go_sem] | with_reducible refine Gst.now ?_ | with_reducible refine vawp_draw mixed (by kernel_rfl) ?_ | with_reducible first | refine lwV_out ?_ | refine lwV_out0 ?_ | refine lkC_out ?_ | refine And.intro (by omega) ?_ | fail); exact hk'))) | (apply vopsQ_gf'; (case hd => rfl); (case h1 => rfl); (case h2 => rfl); (case h3 => simp (disch := first | omega | assumption) only [↓reduceIte, go_sem])) | (apply vopsQ_gj; (case hd => rfl); (case h1 => rfl); (case h2 => rfl); (case h3 => simp (disch := first | omega | assumption) only [↓reduceIte, go_sem])) | (apply vopsQ_gpk; (case hd => rfl); (case h1 => rfl); (case h2 => rfl); (case h3 => simp (disch := first | omega | assumption) only [↓reduceIte, go_sem]); (case k1 => simp (disch := first | omega | assumption) only [↓reduceIte, go_sem]); (case k2 => simp (disch := first | omega | assumption) only [↓reduceIte, go_sem]); (case k3 => simp (disch := first | omega | assumption) only [↓reduceIte, go_sem]); (case hb => (intro hc; (try simp (disch := first | omega | assumption) only [↓reduceIte, go_sem] at hc); simp (disch := first | omega | assumption) only [↓reduceIte, go_sem, hc])); (try simp (disch := first | omega | assumption) only [↓reduceIte, go_sem])) | (apply vopsQ_gu; (case hd => rfl); (case h1 => rfl); (case h2 => rfl); (case h3 => simp (disch := first | omega | assumption) only [↓reduceIte, go_sem]); (case hq => (intro hc K' hk'; (try simp (disch := first | omega | assumption) only [↓reduceIte, go_sem] at hc); repeat (first | simp (maxSteps := 4000000) (disch := first | omega | assumption) only [↓reduceIte, go_sem, hc] | with_reducible refine Gst.now ?_ | with_reducible refine vawp_draw mixed (by kernel_rfl) ?_ | with_reducible first | refine lwV_out ?_ | refine lwV_out0 ?_ | refine lkC_out ?_ | refine And.intro (by omega) ?_ | fail); exact hk')); (try simp (disch := first | omega | assumption) only [↓reduceIte, go_sem])) | fail)
      first | (apply vopsQ_n; (case hd => rfl)) | (apply vopsQ_gt; (case hd => rfl); (case h1 => rfl); (case h2 => rfl); (case h3 => simp (disch := first | omega | assumption) only [↓reduceIte, go_sem]))
      case hq => (intro K' hk'; repeat (first | simp (maxSteps := 4000000) (disch := first | omega | assumption) only [↓reduceIte, go_sem] | with_reducible refine Gst.now ?_ | with_reducible refine vawp_draw mixed (by kernel_rfl) ?_ | with_reducible first | refine lwV_out ?_ | refine lwV_out0 ?_ | refine lkC_out ?_ | refine And.intro (by omega) ?_ | fail); refine call_ok ?_; refine few_u hf rfl hb hro ?_; exact hk')
      repeat (first | (apply vopsQ_pk; (case hd => rfl); (case h1 => simp (disch := first | omega | assumption) only [↓reduceIte, go_sem]); (case h2 => simp (disch := first | omega | assumption) only [↓reduceIte, go_sem]); (case h3 => simp (disch := first | omega | assumption) only [↓reduceIte, go_sem]); (case hb => simp (disch := first | omega | assumption) only [↓reduceIte, go_sem]); (try simp (disch := first | omega | assumption) only [↓reduceIte, go_sem])) | (apply vopsQ_n; (case hd => rfl); (case hq => (intro K' hk'; repeat (first | simp (maxSteps := 4000000) (disch := first | omega | assumption) only [↓reduceIte, go_sem] | with_reducible refine Gst.now ?_ | with_reducible refine vawp_draw mixed (by kernel_rfl) ?_ | with_reducible first | refine lwV_out ?_ | refine lwV_out0 ?_ | refine lkC_out ?_ | refine And.intro (by omega) ?_ | fail); exact hk'))) | (apply vopsQ_gt; (case hd => rfl); (case h1 => rfl); (case h2 => rfl); (case h3 => simp (disch := first | omega | assumption) only [↓reduceIte, go_sem]); (case hq => (intro K' hk'; repeat (first | simp (maxSteps := 4000000) (disch := first | omega | assumption) only [↓reduceIte, go_sem] | with_reducible refine Gst.now ?_ | with_reducible refine vawp_draw mixed (by kernel_rfl) ?_ | with_reducible first | refine lwV_out ?_ | refine lwV_out0 ?_ | refine lkC_out ?_ | refine And.intro (by omega) ?_ | fail); exact hk'))) | (apply vopsQ_gf'; (case hd => rfl); (case h1 => rfl); (case h2 => rfl); (case h3 => simp (disch := first | omega | assumption) only [↓reduceIte, go_sem])) | (apply vopsQ_gj; (case hd => rfl); (case h1 => rfl); (case h2 => rfl); (case h3 => simp (disch := first | omega | assumption) only [↓reduceIte, go_sem])) | (apply vopsQ_gpk; (case hd => rfl); (case h1 => rfl); (case h2 => rfl); (case h3 => simp (disch := first | omega | assumption) only [↓reduceIte, go_sem]); (case k1 => simp (disch := first | omega | assumption) only [↓reduceIte, go_sem]); (case k2 => simp (disch := first | omega | assumption) only [↓reduceIte, go_sem]); (case k3 => simp (disch := first | omega | assumption) only [↓reduceIte, go_sem]); (case hb => (intro hc; (try simp (disch := first | omega | assumption) only [↓reduceIte, go_sem] at hc); simp (disch := first | omega | assumption) only [↓reduceIte, go_sem, hc])); (try simp (disch := first | omega | assumption) only [↓reduceIte, go_sem])) | (apply vopsQ_gu; (case hd => rfl); (case h1 => rfl); (case h2 => rfl); (case h3 => simp (disch := first | omega | assumption) only [↓reduceIte, go_sem]); (case hq => (intro hc K' hk'; (try simp (disch := first | omega | assumption) only [↓reduceIte, go_sem] at hc); repeat (first | simp (maxSteps := 4000000) (disch := first | omega | assumption) only [↓reduceIte, go_sem, hc] | with_reducible refine Gst.now ?_ | with_reducible refine vawp_draw mixed (by kernel_rfl) ?_ | with_reducible first | refine lwV_out ?_ | refine lwV_out0 ?_ | refine lkC_out ?_ | refine And.intro (by omega) ?_ | fail); exact hk')); (try simp (disch := first | omega | assumption) only [↓reduceIte, go_sem])) | fail)
      simp only [vopsQ_nil]
      repeat (first | (simp (maxSteps := 1000000) only [↓reduceIte, go_sem]) | (simp (maxSteps := 1000000) (disch := first | omega | assumption) only [BB]) | with_reducible refine Gst.now ?_ | with_reducible refine vawp_draw mixed (by kernel_rfl) ?_ | with_reducible first | refine lwV_out ?_ | refine lwV_out0 ?_ | refine lkC_out ?_ | refine And.intro (by omega) ?_ | fail)
      refine hq _ _ ?_
      repeat (first | (simp (maxSteps := 1000000) only [↓reduceIte, go_sem]) | (simp (maxSteps := 1000000) (disch := first | omega | assumption) only [BB]) | with_reducible refine Gst.now ?_ | with_reducible refine vawp_draw mixed (by kernel_rfl) ?_ | with_reducible first | refine lwV_out ?_ | refine lwV_out0 ?_ | refine lkC_out ?_ | refine And.intro (by omega) ?_ | fail)
      exact .now (hK _)
    | true =>
      obtain ⟨f1, f2⟩ := few_len hf
      repeat (first | (simp (maxSteps := 1000000) only [↓reduceIte, go_sem]) | (simp (maxSteps := 1000000) (disch := first | omega | assumption) only [BB]) | with_reducible refine vawp_draw mixed (by kernel_rfl) ?_ | with_reducible first | refine lwV_out ?_ | refine lwV_out0 ?_ | refine lkC_out ?_ | refine And.intro (by omega) ?_ | fail)
      first | (with_reducible refine Gst.now ?_) | (with_reducible refine lkC_out ?_; simp only [vawp_skip_eq, thenV_normal]; with_reducible refine Gst.now ?_) | (with_reducible refine lkC_out ?_)
      try simp only [vawp_seq_eq, vawp_block_eq]
      with_reducible refine vawp_regq ?_
      simp only [List.toList_toArray]
      repeat (first | (apply vopsQ_pk; (case hd => rfl); (case h1 => simp (disch := first | omega | assumption) only [↓reduceIte, go_sem]); (case h2 => simp (disch := first | omega | assumption) only [↓reduceIte, go_sem]); (case h3 => simp (disch := first | omega | assumption) only [↓reduceIte, go_sem]); (case hb => simp (disch := first | omega | assumption) only [↓reduceIte, go_sem]); (try simp (disch := first | omega | assumption) only [↓reduceIte, go_sem])) | (apply vopsQ_n; (case hd => rfl); (case hq => (intro K' hk'; repeat (first | simp (maxSteps := 4000000) (disch := first | omega | assumption) only [↓reduceIte, go_sem] | with_reducible refine Gst.now ?_ | with_reducible refine vawp_draw mixed (by kernel_rfl) ?_ | with_reducible first | refine lwV_out ?_ | refine lwV_out0 ?_ | refine lkC_out ?_ | refine And.intro (by omega) ?_ | fail); exact hk'))) | (apply vopsQ_gt; (case hd => rfl); (case h1 => rfl); (case h2 => rfl); (case h3 => simp (disch := first | omega | assumption) only [↓reduceIte, go_sem]); (case hq => (intro K' hk'; repeat (first | simp (maxSteps := 4000000) (disch := first | omega | assumption) only [↓reduceIte, go_sem] | with_reducible refine Gst.now ?_ | with_reducible refine vawp_draw mixed (by kernel_rfl) ?_ | with_reducible first | refine lwV_out ?_ | refine lwV_out0 ?_ | refine lkC_out ?_ | refine And.intro (by omega) ?_ | fail); exact hk'))) | (apply vopsQ_gf'; (case hd => rfl); (case h1 => rfl); (case h2 => rfl); (case h3 => simp (disch := first | omega | assumption) only [↓reduceIte, go_sem])) | (apply vopsQ_gj; (case hd => rfl); (case h1 => rfl); (case h2 => rfl); (case h3 => simp (disch := first | omega | assumption) only [↓reduceIte, go_sem])) | (apply vopsQ_gpk; (case hd => rfl); (case h1 => rfl); (case h2 => rfl); (case h3 => simp (disch := first | omega | assumption) only [↓reduceIte, go_sem]); (case k1 => simp (disch := first | omega | assumption) only [↓reduceIte, go_sem]); (case k2 => simp (disch := first | omega | assumption) only [↓reduceIte, go_sem]); (case k3 => simp (disch := first | omega | assumption) only [↓reduceIte, go_sem]); (case hb => (intro hc; (try simp (disch := first | omega | assumption) only [↓reduceIte, go_sem] at hc); simp (disch := first | omega | assumption) only [↓reduceIte, go_sem, hc])); (try simp (disch := first | omega | assumption) only [↓reduceIte, go_sem])) | (apply vopsQ_gu; (case hd => rfl); (case h1 => rfl); (case h2 => rfl); (case h3 => simp (disch := first | omega | assumption) only [↓reduceIte, go_sem]); (case hq => (intro hc K' hk'; (try simp (disch := first | omega | assumption) only [↓reduceIte, go_sem] at hc); repeat (first | simp (maxSteps := 4000000) (disch := first | omega | assumption) only [↓reduceIte, go_sem, hc] | with_reducible refine Gst.now ?_ | with_reducible refine vawp_draw mixed (by kernel_rfl) ?_ | with_reducible first | refine lwV_out ?_ | refine lwV_out0 ?_ | refine lkC_out ?_ | refine And.intro (by omega) ?_ | fail); exact hk')); (try simp (disch := first | omega | assumption) only [↓reduceIte, go_sem])) | fail)
      first | (apply vopsQ_n; (case hd => rfl)) | (apply vopsQ_gt; (case hd => rfl); (case h1 => rfl); (case h2 => rfl); (case h3 => simp (disch := first | omega | assumption) only [↓reduceIte, go_sem]))
      case hq => (intro K' hk'; repeat (first | simp (maxSteps := 4000000) (disch := first | omega | assumption) only [↓reduceIte, go_sem] | with_reducible refine Gst.now ?_ | with_reducible refine vawp_draw mixed (by kernel_rfl) ?_ | with_reducible first | refine lwV_out ?_ | refine lwV_out0 ?_ | refine lkC_out ?_ | refine And.intro (by omega) ?_ | fail); refine call_ok ?_; refine few_u hf rfl hb hro ?_; exact hk')
      repeat (first | (apply vopsQ_pk; (case hd => rfl); (case h1 => simp (disch := first | omega | assumption) only [↓reduceIte, go_sem]); (case h2 => simp (disch := first | omega | assumption) only [↓reduceIte, go_sem]); (case h3 => simp (disch := first | omega | assumption) only [↓reduceIte, go_sem]); (case hb => simp (disch := first | omega | assumption) only [↓reduceIte, go_sem]); (try simp (disch := first | omega | assumption) only [↓reduceIte, go_sem])) | (apply vopsQ_n; (case hd => rfl); (case hq => (intro K' hk'; repeat (first | simp (maxSteps := 4000000) (disch := first | omega | assumption) only [↓reduceIte, go_sem] | with_reducible refine Gst.now ?_ | with_reducible refine vawp_draw mixed (by kernel_rfl) ?_ | with_reducible first | refine lwV_out ?_ | refine lwV_out0 ?_ | refine lkC_out ?_ | refine And.intro (by omega) ?_ | fail); exact hk'))) | (apply vopsQ_gt; (case hd => rfl); (case h1 => rfl); (case h2 => rfl); (case h3 => simp (disch := first | omega | assumption) only [↓reduceIte, go_sem]); (case hq => (intro K' hk'; repeat (first | simp (maxSteps := 4000000) (disch := first | omega | assumption) only [↓reduceIte, go_sem] | with_reducible refine Gst.now ?_ | with_reducible refine vawp_draw mixed (by kernel_rfl) ?_ | with_reducible first | refine lwV_out ?_ | refine lwV_out0 ?_ | refine lkC_out ?_ | refine And.intro (by omega) ?_ | fail); exact hk'))) | (apply vopsQ_gf'; (case hd => rfl); (case h1 => rfl); (case h2 => rfl); (case h3 => simp (disch := first | omega | assumption) only [↓reduceIte, go_sem])) | (apply vopsQ_gj; (case hd => rfl); (case h1 => rfl); (case h2 => rfl); (case h3 => simp (disch := first | omega | assumption) only [↓reduceIte, go_sem])) | (apply vopsQ_gpk; (case hd => rfl); (case h1 => rfl); (case h2 => rfl); (case h3 => simp (disch := first | omega | assumption) only [↓reduceIte, go_sem]); (case k1 => simp (disch := first | omega | assumption) only [↓reduceIte, go_sem]); (case k2 => simp (disch := first | omega | assumption) only [↓reduceIte, go_sem]); (case k3 => simp (disch := first | omega | assumption) only [↓reduceIte, go_sem]); (case hb => (intro hc; (try simp (disch := first | omega | assumption) only [↓reduceIte, go_sem] at hc); simp (disch := first | omega | assumption) only [↓reduceIte, go_sem, hc])); (try simp (disch := first | omega | assumption) only [↓reduceIte, go_sem])) | (apply vopsQ_gu; (case hd => rfl); (case h1 => rfl); (case h2 => rfl); (case h3 => simp (disch := first | omega | assumption) only [↓reduceIte, go_sem]); (case hq => (intro hc K' hk'; (try simp (disch := first | omega | assumption) only [↓reduceIte, go_sem] at hc); repeat (first | simp (maxSteps := 4000000) (disch := first | omega | assumption) only [↓reduceIte, go_sem, hc] | with_reducible refine Gst.now ?_ | with_reducible refine vawp_draw mixed (by kernel_rfl) ?_ | with_reducible first | refine lwV_out ?_ | refine lwV_out0 ?_ | refine lkC_out ?_ | refine And.intro (by omega) ?_ | fail); exact hk')); (try simp (disch := first | omega | assumption) only [↓reduceIte, go_sem])) | fail)
      simp only [vopsQ_nil]
      repeat (first | (simp (maxSteps := 1000000) only [↓reduceIte, go_sem]) | (simp (maxSteps := 1000000) (disch := first | omega | assumption) only [BB]) | with_reducible refine Gst.now ?_ | with_reducible refine vawp_draw mixed (by kernel_rfl) ?_ | with_reducible first | refine lwV_out ?_ | refine lwV_out0 ?_ | refine lkC_out ?_ | refine And.intro (by omega) ?_ | fail)
      refine vBuildS_o bs33 ?_ ?_ ?_ ?_ ?_
      rfl
      rfl
      rfl
      rfl
      intro q7 hq7
      repeat (first | (simp (maxSteps := 1000000) only [↓reduceIte, go_sem]) | (simp (maxSteps := 1000000) (disch := first | omega | assumption) only [BB]) | with_reducible refine Gst.now ?_ | with_reducible refine vawp_draw mixed (by kernel_rfl) ?_ | with_reducible first | refine lwV_out ?_ | refine lwV_out0 ?_ | refine lkC_out ?_ | refine And.intro (by omega) ?_ | fail)
      refine vConvO (by kernel_rfl) (hset_at _ _ _) ?_
      repeat (first | (simp (maxSteps := 1000000) only [↓reduceIte, go_sem]) | (simp (maxSteps := 1000000) (disch := first | omega | assumption) only [BB]) | with_reducible refine Gst.now ?_ | with_reducible refine vawp_draw mixed (by kernel_rfl) ?_ | with_reducible first | refine lwV_out ?_ | refine lwV_out0 ?_ | refine lkC_out ?_ | refine And.intro (by omega) ?_ | fail)
      refine vBuildS_own' bs51 (by decide) ⟨[], rfl, rfl, ?_⟩
      intro q8 hq8
      repeat (first | (simp (maxSteps := 1000000) only [↓reduceIte, go_sem]) | (simp (maxSteps := 1000000) (disch := first | omega | assumption) only [BB]) | with_reducible refine Gst.now ?_ | with_reducible refine vawp_draw mixed (by kernel_rfl) ?_ | with_reducible first | refine lwV_out ?_ | refine lwV_out0 ?_ | refine lkC_out ?_ | refine And.intro (by omega) ?_ | fail)
      refine vBuildS_o bs29 ?_ ?_ ?_ ?_ ?_
      rfl
      rfl
      rfl
      rfl
      intro q9 hq9
      repeat (first | (simp (maxSteps := 1000000) only [↓reduceIte, go_sem]) | (simp (maxSteps := 1000000) (disch := first | omega | assumption) only [BB]) | with_reducible refine Gst.now ?_ | with_reducible refine vawp_draw mixed (by kernel_rfl) ?_ | with_reducible first | refine lwV_out ?_ | refine lwV_out0 ?_ | refine lkC_out ?_ | refine And.intro (by omega) ?_ | fail)
      refine vawp_loop (k := os.length) (fun d ρ h1 => ∃ (i : Nat) (X : List RowV) (L : List Nat) (r k : Nat) (h0 : VH) (q7 q8 q9 : Nat) (all : List Nat) (ps : List (Nat × Nat)) (rs : List RowV), d + i = os.length ∧ ρ 0 = (.sc (.int .i64 ((s : Nat)))) ∧ ρ 5 = .op j 0 ∧ ρ 7 = .own q7 0 all.length ∧ ρ 8 = .own q8 0 ps.length ∧ ρ 9 = .own q9 0 rs.length ∧ ρ 38 = .isl nl os.length (os.flatMap opC) ∧ ρ 39 = (.sc (.int .i64 (os.length))) ∧ ρ 40 = (.sc (.int .i64 (i))) ∧ InvF s (X, L) i all ps rs ∧ (j ≠ r ∧ j ≠ k ∧ r ≠ k) ∧ Own3 h0 q7 q8 q9 j r k all ps rs ∧ h1 = WrS h0 j r k s X L) ?_ ?_
      · have m7 := hset_fresh hq8
        have m8 := hset_fresh hq9
        have m9 := hset_fresh m8.2
        rw [WrS_none] at hq7
        obtain ⟨w8, m10⟩ := m7
        obtain ⟨w9, m11⟩ := m9
        have w10 := m8.1
        rw [WrS_none] at m10 m11
        refine ⟨0, [], [80, 75, 7, 8], r, k, hset (hset (hset h q7 (.cells 5 false [(.sc (.int .u8 (80))), (.sc (.int .u8 (75))), (.sc (.int .u8 (7))), (.sc (.int .u8 (8)))])) q8 (.cells 37 false [])) q9 (.cells 33 false []), q7, q8, q9, [80, 75, 7, 8], [], [], by omega, ?_⟩
        have i1 : InvF s (([] : List RowV), [80, 75, 7, 8]) 0 [80, 75, 7, 8] [] [] := ⟨⟨by show 4 ≤ s; omega, Nat.le_refl _, fun x hx => by cases hx⟩, ⟨by decide, fun x hx => by cases hx⟩, by decide, rfl, rfl, fun m hm => by simp at hm, Nat.le_refl _, by decide⟩
        have e5 : hset (hset (hset (WrS h j r k s [] [80, 75, 7, 8]) q7 (.cells 5 false [(.sc (.int .u8 (80))), (.sc (.int .u8 (75))), (.sc (.int .u8 (7))), (.sc (.int .u8 (8)))])) q8 (.cells 37 false [])) q9 (.cells 33 false []) = WrS (hset (hset (hset h q7 (.cells 5 false [(.sc (.int .u8 (80))), (.sc (.int .u8 (75))), (.sc (.int .u8 (7))), (.sc (.int .u8 (8)))])) q8 (.cells 37 false [])) q9 (.cells 33 false [])) j r k s [] [80, 75, 7, 8] := by
          rw [WrS_hset hq7.1 hq7.2.1 hq7.2.2.1, WrS_hset m10.1 m10.2.1 m10.2.2.1, WrS_hset m11.1 m11.2.1 m11.2.2.1]
        repeat (first | (simp (maxSteps := 1000000) only [↓reduceIte, go_sem, e5]) | (simp (maxSteps := 1000000) (disch := first | omega | assumption) only [BB, e5]) | with_reducible refine Gst.now ?_ | with_reducible refine vawp_draw mixed (by kernel_rfl) ?_ | with_reducible first | refine lwV_out ?_ | refine lwV_out0 ?_ | refine lkC_out ?_ | refine And.intro (by omega) ?_ | fail)
        exact ⟨(hset_ne _ _ (Ne.symm w9)).trans ((hset_ne _ _ (Ne.symm w8)).trans (hset_at _ _ _)), (hset_ne _ _ (Ne.symm w10)).trans (hset_at _ _ _), hset_at _ _ _, Ne.symm w8, Ne.symm w9, Ne.symm w10, (hset_ne _ _ (Ne.symm m11.1)).trans ((hset_ne _ _ (Ne.symm m10.1)).trans ((hset_ne _ _ (Ne.symm hq7.1)).trans hj)), (hset_ne _ _ (Ne.symm m11.2.1)).trans ((hset_ne _ _ (Ne.symm m10.2.1)).trans ((hset_ne _ _ (Ne.symm hq7.2.1)).trans hr)), (hset_ne _ _ (Ne.symm m11.2.2.1)).trans ((hset_ne _ _ (Ne.symm m10.2.2.1)).trans ((hset_ne _ _ (Ne.symm hq7.2.2.1)).trans hk))⟩
      · rintro d ρ h1 ⟨i, X, L, r, k, h0, q7, q8, q9, all, ps, rs, hd, g0, g5, g7, g8, g9, g38, g39, g40, hF, ⟨n1, n2, n3⟩, hO, rfl⟩
        have iL := hF.s.hL
        have iX := hF.s.hX
        have b1 := hF.b1
        have b2 := hF.b2
        have b3 := hF.len
        simp only at iL iX
        repeat (first | (simp (maxSteps := 1000000) only [↓reduceIte, go_sem, g0, g5, g7, g8, g9, g38, g39, g40]) | (simp (maxSteps := 1000000) (disch := first | omega | assumption) only [BB, g0, g5, g7, g8, g9, g38, g39, g40]) | with_reducible refine Gst.now ?_ | with_reducible refine vawp_draw mixed (by kernel_rfl) ?_ | with_reducible first | refine lwV_out ?_ | refine lwV_out0 ?_ | refine lkC_out ?_ | refine And.intro (by omega) ?_ | fail)
        split
        · have hi : i < os.length := by omega
          have e3 := op_at os i hi
          have hrt := hro _ (getD_mem hi)
          have hf60 := f2 _ (getD_mem hi)
          generalize os.getD i default = o at *
          obtain ⟨ok, ob⟩ := o
          simp only at hrt hf60
          repeat (first | (simp (maxSteps := 1000000) only [↓reduceIte, go_sem, g0, g5, g7, g8, g9, g38, g39, g40, e3]) | (simp (maxSteps := 1000000) (disch := first | omega | assumption) only [BB, g0, g5, g7, g8, g9, g38, g39, g40, e3]) | with_reducible refine Gst.now ?_ | with_reducible refine vawp_draw mixed (by kernel_rfl) ?_ | with_reducible first | refine lwV_out ?_ | refine lwV_out0 ?_ | refine lkC_out ?_ | refine And.intro (by omega) ?_ | fail)
          intro p hp
          repeat (first | (simp (maxSteps := 1000000) only [↓reduceIte, go_sem, g0, g5, g7, g8, g9, g38, g39, g40, e3]) | (simp (maxSteps := 1000000) (disch := first | omega | assumption) only [BB, g0, g5, g7, g8, g9, g38, g39, g40, e3]) | with_reducible refine vawp_draw mixed (by kernel_rfl) ?_ | with_reducible first | refine lwV_out ?_ | refine lwV_out0 ?_ | refine lkC_out ?_ | refine And.intro (by omega) ?_ | fail)
          refine .box 11 p hp rfl (.now ?_)
          have e7 := @gV_ne
          try simp only [vawp_seq_eq, vawp_block_eq]
          with_reducible refine vawp_regq ?_
          simp only [List.toList_toArray]
          repeat (first | (apply vopsQ_pk; (case hd => rfl); (case h1 => simp (disch := first | omega | assumption) only [↓reduceIte, go_sem, g0, g5, g7, g8, g9, g38, g39, g40, e3, e7]); (case h2 => simp (disch := first | omega | assumption) only [↓reduceIte, go_sem, g0, g5, g7, g8, g9, g38, g39, g40, e3, e7]); (case h3 => simp (disch := first | omega | assumption) only [↓reduceIte, go_sem, g0, g5, g7, g8, g9, g38, g39, g40, e3, e7]); (case hb => simp (disch := first | omega | assumption) only [↓reduceIte, go_sem, g0, g5, g7, g8, g9, g38, g39, g40, e3, e7]); (try simp (disch := first | omega | assumption) only [↓reduceIte, go_sem, g0, g5, g7, g8, g9, g38, g39, g40, e3, e7])) | (apply vopsQ_n; (case hd => rfl); (case hq => (intro K' hk'; repeat (first | simp (maxSteps := 4000000) (disch := first | omega | assumption) only [↓reduceIte, go_sem, g0, g5, g7, g8, g9, g38, g39, g40, e3, e7] | with_reducible refine Gst.now ?_ | with_reducible refine vawp_draw mixed (by kernel_rfl) ?_ | with_reducible first | refine lwV_out ?_ | refine lwV_out0 ?_ | refine lkC_out ?_ | refine And.intro (by omega) ?_ | fail); exact hk'))) | (apply vopsQ_gt; (case hd => rfl); (case h1 => rfl); (case h2 => rfl); (case h3 => simp (disch := first | omega | assumption) only [↓reduceIte, go_sem]); (case hq => (intro K' hk'; repeat (first | simp (maxSteps := 4000000) (disch := first | omega | assumption) only [↓reduceIte, go_sem, g0, g5, g7, g8, g9, g38, g39, g40, e3, e7] | with_reducible refine Gst.now ?_ | with_reducible refine vawp_draw mixed (by kernel_rfl) ?_ | with_reducible first | refine lwV_out ?_ | refine lwV_out0 ?_ | refine lkC_out ?_ | refine And.intro (by omega) ?_ | fail); exact hk'))) | (apply vopsQ_gf'; (case hd => rfl); (case h1 => rfl); (case h2 => rfl); (case h3 => simp (disch := first | omega | assumption) only [↓reduceIte, go_sem, g0, g5, g7, g8, g9, g38, g39, g40, e3, e7])) | (apply vopsQ_gj; (case hd => rfl); (case h1 => rfl); (case h2 => rfl); (case h3 => simp (disch := first | omega | assumption) only [↓reduceIte, go_sem, g0, g5, g7, g8, g9, g38, g39, g40, e3, e7])) | (apply vopsQ_gpk; (case hd => rfl); (case h1 => rfl); (case h2 => rfl); (case h3 => simp (disch := first | omega | assumption) only [↓reduceIte, go_sem, g0, g5, g7, g8, g9, g38, g39, g40, e3, e7]); (case k1 => simp (disch := first | omega | assumption) only [↓reduceIte, go_sem, g0, g5, g7, g8, g9, g38, g39, g40, e3, e7]); (case k2 => simp (disch := first | omega | assumption) only [↓reduceIte, go_sem, g0, g5, g7, g8, g9, g38, g39, g40, e3, e7]); (case k3 => simp (disch := first | omega | assumption) only [↓reduceIte, go_sem, g0, g5, g7, g8, g9, g38, g39, g40, e3, e7]); (case hb => (intro hc; (try simp (disch := first | omega | assumption) only [↓reduceIte, go_sem, g0, g5, g7, g8, g9, g38, g39, g40, e3, e7] at hc); simp (disch := first | omega | assumption) only [↓reduceIte, go_sem, hc, g0, g5, g7, g8, g9, g38, g39, g40, e3, e7])); (try simp (disch := first | omega | assumption) only [↓reduceIte, go_sem, g0, g5, g7, g8, g9, g38, g39, g40, e3, e7])) | (apply vopsQ_gu; (case hd => rfl); (case h1 => rfl); (case h2 => rfl); (case h3 => simp (disch := first | omega | assumption) only [↓reduceIte, go_sem, g0, g5, g7, g8, g9, g38, g39, g40, e3, e7]); (case hq => (intro hc K' hk'; (try simp (disch := first | omega | assumption) only [↓reduceIte, go_sem, g0, g5, g7, g8, g9, g38, g39, g40, e3, e7] at hc); repeat (first | simp (maxSteps := 4000000) (disch := first | omega | assumption) only [↓reduceIte, go_sem, hc, g0, g5, g7, g8, g9, g38, g39, g40, e3, e7] | with_reducible refine Gst.now ?_ | with_reducible refine vawp_draw mixed (by kernel_rfl) ?_ | with_reducible first | refine lwV_out ?_ | refine lwV_out0 ?_ | refine lkC_out ?_ | refine And.intro (by omega) ?_ | fail); exact hk')); (try simp (disch := first | omega | assumption) only [↓reduceIte, go_sem, g0, g5, g7, g8, g9, g38, g39, g40, e3, e7])) | fail)
          simp only [vopsQ_nil]
          first | (with_reducible refine Gst.now ?_) | (with_reducible refine lkC_out ?_; simp only [vawp_skip_eq, thenV_normal]; with_reducible refine Gst.now ?_) | (with_reducible refine lkC_out ?_)
          repeat (first | (simp (maxSteps := 1000000) only [↓reduceIte, go_sem, g0, g5, g7, g8, g9, g38, g39, g40, e3, e7]) | (simp (maxSteps := 1000000) (disch := first | omega | assumption) only [BB, g0, g5, g7, g8, g9, g38, g39, g40, e3, e7]) | with_reducible refine vawp_draw mixed (by kernel_rfl) ?_ | with_reducible first | refine lwV_out ?_ | refine lwV_out0 ?_ | refine lkC_out ?_ | refine And.intro (by omega) ?_ | fail)
          split
          · repeat (first | (simp (maxSteps := 1000000) only [↓reduceIte, go_sem, g0, g5, g7, g8, g9, g38, g39, g40, e3, e7]) | (simp (maxSteps := 1000000) (disch := first | omega | assumption) only [BB, g0, g5, g7, g8, g9, g38, g39, g40, e3, e7]) | with_reducible refine Gst.now ?_ | with_reducible refine vawp_draw mixed (by kernel_rfl) ?_ | with_reducible first | refine lwV_out ?_ | refine lwV_out0 ?_ | refine lkC_out ?_ | refine And.intro (by omega) ?_ | fail)
            refine call_ok (data_v n1 n2 n3 hO.fj hO.fr hO.fk rfl iL (by omega) (by omega) (by omega) fun r2 k2 l1 l2 l3 hr2 hk2 => ?_)
            have hO2 := hO.rk hr2 hk2
            have hF2 := hF.data (by omega) hf60
            generalize hS : dataW s (X, L) ob.bs = S at *
            obtain ⟨X2, L2⟩ := S
            have k7 := hO2.wa (s := s) (X := X2) (L := L2)
            simp only at *
            repeat (first | (simp (maxSteps := 1000000) only [↓reduceIte, go_sem, g0, g5, g7, g8, g9, g38, g39, g40, e3, e7]) | (simp (maxSteps := 1000000) (disch := first | omega | assumption) only [BB, g0, g5, g7, g8, g9, g38, g39, g40, e3, e7]) | with_reducible refine Gst.now ?_ | with_reducible refine vawp_draw mixed (by kernel_rfl) ?_ | with_reducible first | refine lwV_out ?_ | refine lwV_out0 ?_ | refine lkC_out ?_ | refine And.intro (by omega) ?_ | fail)
            apply vApp_own_isl ap33 (by simp only [go_sem])
            case hv => first | (simp []; done) | (simp []; omega) | rfl | assumption
            case hj => repeat (first | exact hset_at _ _ _ | assumption | refine (hset_ne _ _ (by first | omega | assumption)).trans ?_ | refine (hdel_ne _ (by first | omega | assumption)).trans ?_ | fail)
            case hl => first | (simp []; done) | (simp []; omega) | rfl | assumption
            case h1 => first | omega | (simp []; omega) | (simp []; done)
            case h2 => first | omega | (simp []; omega) | (simp []; done)
            intro a' ha'
            obtain ⟨h1, e8, hO3⟩ := hO2.ua ha' (all ++ ob.bs)
            rw [List.map_append] at e8
            repeat (first | (simp (maxSteps := 1000000) only [↓reduceIte, go_sem, g0, g5, g7, g8, g9, g38, g39, g40, e3, e7]) | (simp (maxSteps := 1000000) (disch := first | omega | assumption) only [BB, g0, g5, g7, g8, g9, g38, g39, g40, e3, e7]) | with_reducible refine Gst.now ?_ | with_reducible refine vawp_draw mixed (by kernel_rfl) ?_ | with_reducible first | refine lwV_out ?_ | refine lwV_out0 ?_ | refine lkC_out ?_ | refine And.intro (by omega) ?_ | fail)
            exact ⟨d - 1, by omega, i + 1, X2, L2, r2, k2, h1, a', q8, q9, all ++ ob.bs, ps, rs, by omega, ⟨rfl, by simp⟩, ⟨rfl, rfl⟩, ⟨rfl, rfl⟩, rfl, hF2, ⟨l1, l2, l3⟩, hO3, e8⟩
          · repeat (first | (simp (maxSteps := 1000000) only [↓reduceIte, go_sem, g0, g5, g7, g8, g9, g38, g39, g40, e3, e7]) | (simp (maxSteps := 1000000) (disch := first | omega | assumption) only [BB, g0, g5, g7, g8, g9, g38, g39, g40, e3, e7]) | with_reducible refine Gst.now ?_ | with_reducible refine vawp_draw mixed (by kernel_rfl) ?_ | with_reducible first | refine lwV_out ?_ | refine lwV_out0 ?_ | refine lkC_out ?_ | refine And.intro (by omega) ?_ | fail)
            refine call_ok (record_v n1 n2 n3 hO.fj hO.fr hO.fk rfl iL (by omega) (by omega) (by omega) (fun hc => ?_) (fun c0 c1 r2 k2 l1 l2 l3 hr2 hk2 => ?_))
            · repeat (first | (simp (maxSteps := 1000000) only [↓reduceIte, go_sem, g0, g5, g7, g8, g9, g38, g39, g40, e3, e7]) | (simp (maxSteps := 1000000) (disch := first | omega | assumption) only [BB, g0, g5, g7, g8, g9, g38, g39, g40, e3, e7]) | with_reducible refine vawp_draw mixed (by kernel_rfl) ?_ | with_reducible first | refine lwV_out ?_ | refine lwV_out0 ?_ | refine lkC_out ?_ | refine And.intro (by omega) ?_ | fail)
              intro p4 hp4
              repeat (first | (simp (maxSteps := 1000000) only [↓reduceIte, go_sem, g0, g5, g7, g8, g9, g38, g39, g40, e3, e7]) | (simp (maxSteps := 1000000) (disch := first | omega | assumption) only [BB, g0, g5, g7, g8, g9, g38, g39, g40, e3, e7]) | with_reducible refine vawp_draw mixed (by kernel_rfl) ?_ | with_reducible first | refine lwV_out ?_ | refine lwV_out0 ?_ | refine lkC_out ?_ | refine And.intro (by omega) ?_ | fail)
              refine .box 12 p4 hp4 rfl (.now ?_)
              repeat (first | (simp (maxSteps := 1000000) only [↓reduceIte, go_sem, g0, g5, g7, g8, g9, g38, g39, g40, e3, e7]) | (simp (maxSteps := 1000000) (disch := first | omega | assumption) only [BB, g0, g5, g7, g8, g9, g38, g39, g40, e3, e7]) | with_reducible refine Gst.now ?_ | with_reducible refine vawp_draw mixed (by kernel_rfl) ?_ | with_reducible first | refine lwV_out ?_ | refine lwV_out0 ?_ | refine lkC_out ?_ | refine And.intro (by omega) ?_ | fail)
              refine ⟨d - 1, by omega, i + 1, X, L, r, k, h0, q7, q8, q9, all, ps, rs, by omega, ?_⟩
              repeat (first | (simp (maxSteps := 1000000) only [↓reduceIte, go_sem, g0, g5, g7, g8, g9, g38, g39, g40, e3, e7]) | (simp (maxSteps := 1000000) (disch := first | omega | assumption) only [BB, g0, g5, g7, g8, g9, g38, g39, g40, e3, e7]) | with_reducible refine Gst.now ?_ | with_reducible refine vawp_draw mixed (by kernel_rfl) ?_ | with_reducible first | refine lwV_out ?_ | refine lwV_out0 ?_ | refine lkC_out ?_ | refine And.intro (by omega) ?_ | fail)
              exact ⟨hF.skip, ⟨n1, n2, n3⟩, hO⟩
            · have hO2 := hO.rk hr2 hk2
              have hF2 := hF.lay (nl := ob.nl) c0 c1 hf60
              generalize placeW s X.length L.length ob.bs.length = pl at *
              generalize hS : layW s X L ob.bs = S at *
              obtain ⟨X2, L2⟩ := S
              have k7 := hO2.wa (s := s) (X := X2) (L := L2)
              simp only at *
              repeat (first | (simp (maxSteps := 1000000) only [↓reduceIte, go_sem, g0, g5, g7, g8, g9, g38, g39, g40, e3, e7]) | (simp (maxSteps := 1000000) (disch := first | omega | assumption) only [BB, g0, g5, g7, g8, g9, g38, g39, g40, e3, e7]) | with_reducible refine vawp_draw mixed (by kernel_rfl) ?_ | with_reducible first | refine lwV_out ?_ | refine lwV_out0 ?_ | refine lkC_out ?_ | refine And.intro (by omega) ?_ | fail)
              intro p4 hp4
              repeat (first | (simp (maxSteps := 1000000) only [↓reduceIte, go_sem, g0, g5, g7, g8, g9, g38, g39, g40, e3, e7]) | (simp (maxSteps := 1000000) (disch := first | omega | assumption) only [BB, g0, g5, g7, g8, g9, g38, g39, g40, e3, e7]) | with_reducible refine vawp_draw mixed (by kernel_rfl) ?_ | with_reducible first | refine lwV_out ?_ | refine lwV_out0 ?_ | refine lkC_out ?_ | refine And.intro (by omega) ?_ | fail)
              refine .box 12 p4 hp4 rfl (.now ?_)
              repeat (first | (simp (maxSteps := 1000000) only [↓reduceIte, go_sem, g0, g5, g7, g8, g9, g38, g39, g40, e3, e7]) | (simp (maxSteps := 1000000) (disch := first | omega | assumption) only [BB, g0, g5, g7, g8, g9, g38, g39, g40, e3, e7]) | with_reducible refine Gst.now ?_ | with_reducible refine vawp_draw mixed (by kernel_rfl) ?_ | with_reducible first | refine lwV_out ?_ | refine lwV_out0 ?_ | refine lkC_out ?_ | refine And.intro (by omega) ?_ | fail)
              apply vApp_own_isl ap33 (by simp only [go_sem])
              case hv => first | (simp []; done) | (simp []; omega) | rfl | assumption
              case hj => repeat (first | exact hset_at _ _ _ | assumption | refine (hset_ne _ _ (by first | omega | assumption)).trans ?_ | refine (hdel_ne _ (by first | omega | assumption)).trans ?_ | fail)
              case hl => first | (simp []; done) | (simp []; omega) | rfl | assumption
              case h1 => first | omega | (simp []; omega) | (simp []; done)
              case h2 => first | omega | (simp []; omega) | (simp []; done)
              intro a' ha'
              obtain ⟨h1, e8, hO3⟩ := hO2.ua ha' (all ++ ob.bs)
              rw [List.map_append] at e8
              have e10 := e8
              have k8 := hO3.wp (s := s) (X := X2) (L := L2)
              repeat (first | (simp (maxSteps := 1000000) only [↓reduceIte, go_sem, g0, g5, g7, g8, g9, g38, g39, g40, e3, e7, e10]) | (simp (maxSteps := 1000000) (disch := first | omega | assumption) only [BB, g0, g5, g7, g8, g9, g38, g39, g40, e3, e7, e10]) | with_reducible refine Gst.now ?_ | with_reducible first | refine lwV_out ?_ | refine lwV_out0 ?_ | refine lkC_out ?_ | refine And.intro (by omega) ?_ | fail)
              refine vawp_split2 [0, 1, 2, 4, 5, 6, 7] [3, 8, 9, 10] (fun _ => True) mixed (by kernel_rfl) ?_ ?_
              · trivial
              simp only [pickO_cons, pickO_nil, List.getElem?_toArray, List.getElem?_cons_zero, List.getElem?_cons_succ]
              repeat (first | (apply vopsP_n; (case hd => rfl); (case hq => (intro h' K' hI' hk'; repeat (first | simp (maxSteps := 4000000) (disch := first | omega | assumption) only [↓reduceIte, go_sem, hI', g0, g5, g7, g8, g9, g38, g39, g40, e3, e7, e10] | with_reducible refine Gst.now ?_ | with_reducible refine vawp_draw mixed (by kernel_rfl) ?_ | with_reducible first | refine lwV_out ?_ | refine lwV_out0 ?_ | refine lkC_out ?_ | refine And.intro (by omega) ?_ | fail); exact hk'))) | fail)
              apply vopsP_n
              case hd => rfl
              case hq =>
                intro h' K' hI' hk'
                repeat (first | (simp (maxSteps := 1000000) only [↓reduceIte, go_sem, g0, g5, g7, g8, g9, g38, g39, g40, e3, e7, e10]) | (simp (maxSteps := 1000000) (disch := first | omega | assumption) only [BB, g0, g5, g7, g8, g9, g38, g39, g40, e3, e7, e10]) | with_reducible refine Gst.now ?_ | with_reducible refine vawp_draw mixed (by kernel_rfl) ?_ | with_reducible first | refine lwV_out ?_ | refine lwV_out0 ?_ | refine lkC_out ?_ | refine And.intro (by omega) ?_ | fail)
                refine vBuildS_isl' bs51 (by decide) ⟨plC pl, rfl, rfl, ?_⟩
                exact hk'
              repeat (first | (apply vopsP_n; (case hd => rfl); (case hq => (intro h' K' hI' hk'; repeat (first | simp (maxSteps := 4000000) (disch := first | omega | assumption) only [↓reduceIte, go_sem, hI', g0, g5, g7, g8, g9, g38, g39, g40, e3, e7, e10] | with_reducible refine Gst.now ?_ | with_reducible refine vawp_draw mixed (by kernel_rfl) ?_ | with_reducible first | refine lwV_out ?_ | refine lwV_out0 ?_ | refine lkC_out ?_ | refine And.intro (by omega) ?_ | fail); exact hk'))) | fail)
              apply vopsP_n
              case hd => rfl
              case hq =>
                intro h' K' hI' hk'
                repeat (first | (simp (maxSteps := 1000000) only [↓reduceIte, go_sem, g0, g5, g7, g8, g9, g38, g39, g40, e3, e7, e10]) | (simp (maxSteps := 1000000) (disch := first | omega | assumption) only [BB, g0, g5, g7, g8, g9, g38, g39, g40, e3, e7, e10]) | with_reducible refine Gst.now ?_ | with_reducible refine vawp_draw mixed (by kernel_rfl) ?_ | with_reducible first | refine lwV_out ?_ | refine lwV_out0 ?_ | refine lkC_out ?_ | refine And.intro (by omega) ?_ | fail)
                refine vBuildS_i bs29 ?_ ?_ ?_ ?_ ?_
                rfl
                rfl
                rfl
                rfl
                exact hk'
              simp only [vopsP_nil]
              try simp only [putV_s, putV_n]
              refine vopsT_1 3 (by kernel_rfl) rfl (by first | trivial | exact Nat.le_of_ble_eq_true rfl) rfl ?_
              repeat (first | (simp (maxSteps := 1000000) only [↓reduceIte, go_sem]) | (simp (maxSteps := 1000000) (disch := first | omega | assumption) only [BB]) | with_reducible refine Gst.now ?_ | with_reducible refine vawp_draw mixed (by kernel_rfl) ?_ | with_reducible first | refine lwV_out ?_ | refine lwV_out0 ?_ | refine lkC_out ?_ | refine And.intro (by omega) ?_ | fail)
              have hpl := pl_len ps
              apply vApp_own_isl ap51 (by simp only [go_sem])
              case hv => first | (simp [hpl]; done) | (simp [hpl]; omega) | rfl | assumption
              case hj => repeat (first | exact hset_at _ _ _ | assumption | refine (hset_ne _ _ (by first | omega | assumption)).trans ?_ | refine (hdel_ne _ (by first | omega | assumption)).trans ?_ | fail)
              case hl => first | (simp [hpl]; done) | (simp [hpl]; omega) | rfl | assumption
              case h1 => first | omega | (simp [hpl]; omega) | (simp [hpl]; done)
              case h2 => first | omega | (simp [hpl]; omega) | (simp [hpl]; done)
              intro p' hp'
              obtain ⟨h2, e9, hO4⟩ := hO3.up hp' (ps ++ [pl])
              rw [List.flatMap_append, List.flatMap_singleton, show plC pl = [(.sc (.int .i64 ((pl.1 : Nat)))), (.sc (.int .i64 ((pl.2 : Nat))))] from rfl] at e9
              have e11 := e9
              have k9 := hO4.wq (s := s) (X := X2) (L := L2)
              repeat (first | (simp (maxSteps := 1000000) only [↓reduceIte, go_sem, g0, g5, g7, g8, g9, g38, g39, g40, e3, e7, e10, e11]) | (simp (maxSteps := 1000000) (disch := first | omega | assumption) only [BB, g0, g5, g7, g8, g9, g38, g39, g40, e3, e7, e10, e11]) | with_reducible refine Gst.now ?_ | with_reducible refine vawp_draw mixed (by kernel_rfl) ?_ | with_reducible first | refine lwV_out ?_ | refine lwV_out0 ?_ | refine lkC_out ?_ | refine And.intro (by omega) ?_ | fail)
              try simp only [putV_s, putV_n]
              refine vopsT_1 8 (by kernel_rfl) rfl (by first | trivial | exact Nat.le_of_ble_eq_true rfl) rfl ?_
              repeat (first | (simp (maxSteps := 1000000) only [↓reduceIte, go_sem]) | (simp (maxSteps := 1000000) (disch := first | omega | assumption) only [BB]) | with_reducible refine Gst.now ?_ | with_reducible refine vawp_draw mixed (by kernel_rfl) ?_ | with_reducible first | refine lwV_out ?_ | refine lwV_out0 ?_ | refine lkC_out ?_ | refine And.intro (by omega) ?_ | fail)
              have hrl := row_len rs
              apply vApp_own_isl ap29 (by simp only [go_sem])
              case hv => first | (simp [hrl]; done) | (simp [hrl]; omega) | rfl | assumption
              case hj => repeat (first | exact hset_at _ _ _ | assumption | refine (hset_ne _ _ (by first | omega | assumption)).trans ?_ | refine (hdel_ne _ (by first | omega | assumption)).trans ?_ | fail)
              case hl => first | (simp [hrl]; done) | (simp [hrl]; omega) | rfl | assumption
              case h1 => first | omega | (simp [hrl]; omega) | (simp [hrl]; done)
              case h2 => first | omega | (simp [hrl]; omega) | (simp [hrl]; done)
              intro q' hq'
              obtain ⟨h3, e12, hO5⟩ := hO4.uq hq' (rs ++ [⟨ob.nl, ob.bs⟩])
              rw [flat_snoc, show rowA ⟨ob.nl, ob.bs⟩ = .isl ob.nl ob.bs.length (ob.bs.map (iv .u8)) from rfl] at e12
              have e13 := e12
              repeat (first | (simp (maxSteps := 1000000) only [↓reduceIte, go_sem, g0, g5, g7, g8, g9, g38, g39, g40, e3, e7, e10, e11, e13]) | (simp (maxSteps := 1000000) (disch := first | omega | assumption) only [BB, g0, g5, g7, g8, g9, g38, g39, g40, e3, e7, e10, e11, e13]) | with_reducible refine Gst.now ?_ | with_reducible refine vawp_draw mixed (by kernel_rfl) ?_ | with_reducible first | refine lwV_out ?_ | refine lwV_out0 ?_ | refine lkC_out ?_ | refine And.intro (by omega) ?_ | fail)
              try simp only [putV_s, putV_n]
              refine vopsT_1 9 (by kernel_rfl) rfl (by first | trivial | exact Nat.le_of_ble_eq_true rfl) rfl ?_
              repeat (first | (simp (maxSteps := 1000000) only [↓reduceIte, go_sem]) | (simp (maxSteps := 1000000) (disch := first | omega | assumption) only [BB]) | with_reducible refine Gst.now ?_ | with_reducible refine vawp_draw mixed (by kernel_rfl) ?_ | with_reducible first | refine lwV_out ?_ | refine lwV_out0 ?_ | refine lkC_out ?_ | refine And.intro (by omega) ?_ | fail)
              try simp only [putV_s, putV_n]
              refine vopsT_1 10 (by kernel_rfl) rfl (by first | trivial | exact Nat.le_of_ble_eq_true rfl) rfl ?_
              repeat (first | (simp (maxSteps := 1000000) only [↓reduceIte, go_sem]) | (simp (maxSteps := 1000000) (disch := first | omega | assumption) only [BB]) | with_reducible refine Gst.now ?_ | with_reducible refine vawp_draw mixed (by kernel_rfl) ?_ | with_reducible first | refine lwV_out ?_ | refine lwV_out0 ?_ | refine lkC_out ?_ | refine And.intro (by omega) ?_ | fail)
              try simp only [putV_s, putV_n]
              try simp only [vopsT_0]
              repeat (first | (simp (maxSteps := 1000000) only [↓reduceIte, go_sem, g0, g5, g7, g8, g9, g38, g39, g40, e3, e7, e10, e11, e13]) | (simp (maxSteps := 1000000) (disch := first | omega | assumption) only [BB, g0, g5, g7, g8, g9, g38, g39, g40, e3, e7, e10, e11, e13]) | with_reducible refine Gst.now ?_ | with_reducible refine vawp_draw mixed (by kernel_rfl) ?_ | with_reducible first | refine lwV_out ?_ | refine lwV_out0 ?_ | refine lkC_out ?_ | refine And.intro (by omega) ?_ | fail)
              exact ⟨d - 1, by omega, i + 1, X2, L2, r2, k2, h3, a', p', q', all ++ ob.bs, ps ++ [pl], rs ++ [⟨ob.nl, ob.bs⟩], by omega, ⟨rfl, by simp⟩, ⟨rfl, by simp⟩, ⟨rfl, by simp⟩, rfl, hF2, ⟨l1, l2, l3⟩, hO5, rfl⟩
        · have hiO : i = os.length := by omega
          repeat (first | (simp (maxSteps := 1000000) only [↓reduceIte, go_sem, g0, g5, g7, g8, g9, g38, g39, g40]) | (simp (maxSteps := 1000000) (disch := first | omega | assumption) only [BB, g0, g5, g7, g8, g9, g38, g39, g40]) | with_reducible refine vawp_draw mixed (by kernel_rfl) ?_ | with_reducible first | refine lwV_out ?_ | refine lwV_out0 ?_ | refine lkC_out ?_ | refine And.intro (by omega) ?_ | fail)
          have k7 := hO.wa (s := s) (X := X) (L := L)
          have k8 := hO.wp (s := s) (X := X) (L := L)
          have k9 := hO.wq (s := s) (X := X) (L := L)
          have t7 := sn_ne hO.fa hO.fj
          have t8 := sn_ne hO.fa hO.fr
          have t9 := sn_ne hO.fa hO.fk
          have t10 := sn_ne hO.fp hO.fj
          have t11 := sn_ne hO.fp hO.fr
          have t12 := sn_ne hO.fp hO.fk
          have t13 := sn_ne hO.fq hO.fj
          have t14 := sn_ne hO.fq hO.fr
          have t15 := sn_ne hO.fq hO.fk
          refine .frz1 (l := all.length) 7 q7 k7 (by simp only [go_sem, g7]) ?_
          refine .frz1 (l := ps.length) 8 q8 ((hdel_ne _ (Ne.symm hO.ap)).trans k8) (by simp only [go_sem, g8]) ?_
          refine .frz1 (l := rs.length) 9 q9 ((hdel_ne _ (Ne.symm hO.pq)).trans ((hdel_ne _ (Ne.symm hO.aq)).trans k9)) (by simp only [go_sem, g9]) ?_
          rw [WrS_hdel t7 t8 t9, WrS_hdel t10 t11 t12, WrS_hdel t13 t14 t15]
          generalize hdel (hdel (hdel h0 q7) q8) q9 = h1
          refine .now ?_
          repeat (first | (simp (maxSteps := 1000000) only [↓reduceIte, go_sem, g0, g5, g7, g8, g9, g38, g39, g40]) | (simp (maxSteps := 1000000) (disch := first | omega | assumption) only [BB, g0, g5, g7, g8, g9, g38, g39, g40]) | with_reducible refine Gst.now ?_ | with_reducible refine vawp_draw mixed (by kernel_rfl) ?_ | with_reducible first | refine lwV_out ?_ | refine lwV_out0 ?_ | refine lkC_out ?_ | refine And.intro (by omega) ?_ | fail)
          refine call_ok (rowS_v n1 n2 n3 (by omega) (hF.s.ok (by omega)) (by omega) ?_)
          have eX : X ++ [⟨false, L⟩] = rowsS (X, L) := rfl
          have hlX : (rowsS (X, L)).length = X.length + 1 := rowsS_len _
          rw [eX]
          repeat (first | (simp (maxSteps := 1000000) only [↓reduceIte, go_sem, g0, g5, g7, g8, g9, g38, g39, g40]) | (simp (maxSteps := 1000000) (disch := first | omega | assumption) only [BB, g0, g5, g7, g8, g9, g38, g39, g40]) | with_reducible refine Gst.now ?_ | with_reducible refine vawp_draw mixed (by kernel_rfl) ?_ | with_reducible first | refine lwV_out ?_ | refine lwV_out0 ?_ | refine lkC_out ?_ | refine And.intro (by omega) ?_ | fail)
          have hall : ∀ x ∈ rowsS (X, L), 0 < x.bs.length ∧ x.bs.length ≤ s := fun x hx => by
            rcases List.mem_append.1 hx with h1 | h1
            · exact ⟨hF.n.hO x h1, (hF.s.hO x h1).2⟩
            · rw [List.mem_singleton] at h1; subst h1; exact ⟨hF.n.hL, hF.s.hL⟩
          have h4 := hF.f
          have hja := hF.ja
          have hat := hF.at_
          generalize hRR : rowsS (X, L) = R at *
          generalize WrS h1 j r k s X L = H at *
          refine vawp_loop (k := X.length + 1) (fun d ρ h2 => ∃ i : Nat, d + i = X.length + 1 ∧ ρ 0 = (.sc (.int .i64 ((s : Nat)))) ∧ ρ 7 = .isl false all.length (all.map (iv .u8)) ∧ ρ 8 = .isl false ps.length (ps.flatMap plC) ∧ ρ 9 = .isl false rs.length (rs.flatMap rowC) ∧ ρ 14 = .isl false (X.length + 1) (R.flatMap rowC) ∧ ρ 85 = .isl false (X.length + 1) (R.flatMap rowC) ∧ ρ 86 = (.sc (.int .i64 ((X.length + 1 : Nat)))) ∧ ρ 87 = (.sc (.int .i64 (i))) ∧ h2 = H) ?_ ?_
          · refine ⟨0, by omega, ?_⟩
            repeat (first | (simp (maxSteps := 1000000) only [↓reduceIte, go_sem, g0, g5, g7, g8, g9, g38, g39, g40]) | (simp (maxSteps := 1000000) (disch := first | omega | assumption) only [BB, g0, g5, g7, g8, g9, g38, g39, g40]) | with_reducible refine Gst.now ?_ | with_reducible refine vawp_draw mixed (by kernel_rfl) ?_ | with_reducible first | refine lwV_out ?_ | refine lwV_out0 ?_ | refine lkC_out ?_ | refine And.intro (by omega) ?_ | fail)
          · rintro d ρ h2 ⟨i, hd, g0, g7, g8, g9, g14, g85, g86, g87, rfl⟩
            by_cases hi : i < X.length + 1
            · have e1 := eq_true hi
              have hir : i < R.length := by omega
              have hx := hall _ (getD_mem hir)
              have hx0 : i = 0 → 4 ≤ (R.getD i default).bs.length := fun h0 => by subst h0; exact h4
              have e3 := eq_true hir
              generalize hxx : R.getD i default = x at *
              have e7 := hxx
              have e4 : decide (x.bs.length < 1) = false := decide_eq_false (by omega)
              have e5 : decide (s < x.bs.length) = false := decide_eq_false (by omega)
              by_cases hi0 : i = 0
              · have e6 : (i == 0) = true := beq_iff_eq.2 hi0
                have e8 : decide (x.bs.length < 4) = false := decide_eq_false (by have := hx0 hi0; omega)
                repeat (first | (simp (maxSteps := 1000000) only [↓reduceIte, go_sem, g0, g5, g7, g8, g9, g38, g39, g40, g14, g85, g86, g87, e1, e3, e7, e4, e5, e6, e8]) | (simp (maxSteps := 1000000) (disch := first | omega | assumption) only [BB, g0, g5, g7, g8, g9, g38, g39, g40, g14, g85, g86, g87, e1, e3, e7, e4, e5, e6, e8]) | with_reducible refine Gst.now ?_ | with_reducible refine vawp_draw mixed (by kernel_rfl) ?_ | with_reducible first | refine lwV_out ?_ | refine lwV_out0 ?_ | refine lkC_out ?_ | refine And.intro (by omega) ?_ | fail)
                refine ⟨d - 1, by omega, i + 1, by omega, ?_⟩
                repeat (first | (simp (maxSteps := 1000000) only [↓reduceIte, go_sem, g0, g5, g7, g8, g9, g38, g39, g40, g14, g85, g86, g87, e1, e3, e7, e4, e5, e6, e8]) | (simp (maxSteps := 1000000) (disch := first | omega | assumption) only [BB, g0, g5, g7, g8, g9, g38, g39, g40, g14, g85, g86, g87, e1, e3, e7, e4, e5, e6, e8]) | with_reducible refine Gst.now ?_ | with_reducible refine vawp_draw mixed (by kernel_rfl) ?_ | with_reducible first | refine lwV_out ?_ | refine lwV_out0 ?_ | refine lkC_out ?_ | refine And.intro (by omega) ?_ | fail)
              · have e6 : (i == 0) = false := beq_false_of_ne hi0
                repeat (first | (simp (maxSteps := 1000000) only [↓reduceIte, go_sem, g0, g5, g7, g8, g9, g38, g39, g40, g14, g85, g86, g87, e1, e3, e7, e4, e5, e6]) | (simp (maxSteps := 1000000) (disch := first | omega | assumption) only [BB, g0, g5, g7, g8, g9, g38, g39, g40, g14, g85, g86, g87, e1, e3, e7, e4, e5, e6]) | with_reducible refine Gst.now ?_ | with_reducible refine vawp_draw mixed (by kernel_rfl) ?_ | with_reducible first | refine lwV_out ?_ | refine lwV_out0 ?_ | refine lkC_out ?_ | refine And.intro (by omega) ?_ | fail)
                refine ⟨d - 1, by omega, i + 1, by omega, ?_⟩
                repeat (first | (simp (maxSteps := 1000000) only [↓reduceIte, go_sem, g0, g5, g7, g8, g9, g38, g39, g40, g14, g85, g86, g87, e1, e3, e7, e4, e5, e6]) | (simp (maxSteps := 1000000) (disch := first | omega | assumption) only [BB, g0, g5, g7, g8, g9, g38, g39, g40, g14, g85, g86, g87, e1, e3, e7, e4, e5, e6]) | with_reducible refine Gst.now ?_ | with_reducible refine vawp_draw mixed (by kernel_rfl) ?_ | with_reducible first | refine lwV_out ?_ | refine lwV_out0 ?_ | refine lkC_out ?_ | refine And.intro (by omega) ?_ | fail)
            · have e1 := eq_false hi
              repeat (first | (simp (maxSteps := 1000000) only [↓reduceIte, go_sem, g0, g5, g7, g8, g9, g38, g39, g40, g14, g85, g86, g87, e1]) | (simp (maxSteps := 1000000) (disch := first | omega | assumption) only [BB, g0, g5, g7, g8, g9, g38, g39, g40, g14, g85, g86, g87, e1]) | with_reducible refine Gst.now ?_ | with_reducible refine vawp_draw mixed (by kernel_rfl) ?_ | with_reducible first | refine lwV_out ?_ | refine lwV_out0 ?_ | refine lkC_out ?_ | refine And.intro (by omega) ?_ | fail)
              refine vawp_loop (k := ps.length) (fun d ρ h3 => ∃ i : Nat, d + i = ps.length ∧ ρ 7 = .isl false all.length (all.map (iv .u8)) ∧ ρ 9 = .isl false rs.length (rs.flatMap rowC) ∧ ρ 14 = .isl false (X.length + 1) (R.flatMap rowC) ∧ ρ 111 = .isl false ps.length (ps.flatMap plC) ∧ ρ 112 = (.sc (.int .i64 (ps.length))) ∧ ρ 113 = (.sc (.int .i64 (i))) ∧ h3 = h2) ?_ ?_
              · refine ⟨0, by omega, ?_⟩
                repeat (first | (simp (maxSteps := 1000000) only [↓reduceIte, go_sem, g0, g5, g7, g8, g9, g38, g39, g40, g14, g85, g86, g87, e1]) | (simp (maxSteps := 1000000) (disch := first | omega | assumption) only [BB, g0, g5, g7, g8, g9, g38, g39, g40, g14, g85, g86, g87, e1]) | with_reducible refine Gst.now ?_ | with_reducible refine vawp_draw mixed (by kernel_rfl) ?_ | with_reducible first | refine lwV_out ?_ | refine lwV_out0 ?_ | refine lkC_out ?_ | refine And.intro (by omega) ?_ | fail)
              · rintro d ρ h3 ⟨i, hd, g7, g9, g14, g111, g112, g113, rfl⟩
                by_cases hi : i < ps.length
                · have e1 := eq_true hi
                  have hip := hat i hi
                  have e3 := pl_at ps i hi
                  have hrr : i < rs.length := by omega
                  have e4 := eq_true hrr
                  obtain ⟨p1, p2, p3⟩ := hip
                  rw [hRR] at p1 p2 p3
                  generalize ps.getD i default = pl at *
                  generalize hbb : rs.getD i default = b at *
                  have e11 := hbb
                  obtain ⟨pd, pa⟩ := pl
                  simp only at p1 p2 p3
                  have hbl : (R.getD pd default).bs.length ≤ s := (hall _ (getD_mem p1)).2
                  generalize hxx : R.getD pd default = x at *
                  have e12 := hxx
                  have e5 := eq_true p1
                  have e6 : (pd < X.length + 1) = True := eq_true (by omega)
                  have e8 : decide (X.length + 1 ≤ pd) = false := decide_eq_false (by omega)
                  have e9 : decide (x.bs.length < pa + b.bs.length) = false := decide_eq_false (by omega)
                  have e10 := eq_true p2
                  repeat (first | (simp (maxSteps := 1000000) only [↓reduceIte, go_sem, g0, g5, g7, g8, g9, g38, g39, g40, g14, g85, g86, g87, e1, g111, g112, g113, e3, e4, e11, e12, e5, e6, e8, e9, e10]) | (simp (maxSteps := 1000000) (disch := first | omega | assumption) only [BB, g0, g5, g7, g8, g9, g38, g39, g40, g14, g85, g86, g87, e1, g111, g112, g113, e3, e4, e11, e12, e5, e6, e8, e9, e10]) | with_reducible refine Gst.now ?_ | with_reducible refine vawp_draw mixed (by kernel_rfl) ?_ | with_reducible first | refine lwV_out ?_ | refine lwV_out0 ?_ | refine lkC_out ?_ | refine And.intro (by omega) ?_ | fail)
                  intro z hz
                  repeat (first | (simp (maxSteps := 1000000) only [↓reduceIte, go_sem, g0, g5, g7, g8, g9, g38, g39, g40, g14, g85, g86, g87, e1, g111, g112, g113, e3, e4, e11, e12, e5, e6, e8, e9, e10]) | (simp (maxSteps := 1000000) (disch := first | omega | assumption) only [BB, g0, g5, g7, g8, g9, g38, g39, g40, g14, g85, g86, g87, e1, g111, g112, g113, e3, e4, e11, e12, e5, e6, e8, e9, e10]) | with_reducible refine vawp_draw mixed (by kernel_rfl) ?_ | with_reducible first | refine lwV_out ?_ | refine lwV_out0 ?_ | refine lkC_out ?_ | refine And.intro (by omega) ?_ | fail)
                  refine .box 18 z hz rfl (.now ?_)
                  repeat (first | (simp (maxSteps := 1000000) only [↓reduceIte, go_sem, g0, g5, g7, g8, g9, g38, g39, g40, g14, g85, g86, g87, e1, g111, g112, g113, e3, e4, e11, e12, e5, e6, e8, e9, e10]) | (simp (maxSteps := 1000000) (disch := first | omega | assumption) only [BB, g0, g5, g7, g8, g9, g38, g39, g40, g14, g85, g86, g87, e1, g111, g112, g113, e3, e4, e11, e12, e5, e6, e8, e9, e10]) | with_reducible refine Gst.now ?_ | with_reducible first | refine lwV_out ?_ | refine lwV_out0 ?_ | refine lkC_out ?_ | refine And.intro (by omega) ?_ | fail)
                  apply vawp_quiet 47 0 mixed
                  case hk => rfl
                  case hok => kernel_rfl
                  simp only [List.toList_toArray, List.take_succ_cons, List.take_zero]
                  have e13 : decide (pd < 0) = false := decide_eq_false (by omega)
                  have e14 : decide (pa < 0) = false := decide_eq_false (by omega)
                  have e15 : (pa ≤ pa + b.bs.length) = True := eq_true (by omega)
                  repeat (first | (apply vopsQ_pk; (case hd => rfl); (case h1 => simp (disch := first | omega | assumption) only [↓reduceIte, go_sem, g0, g5, g7, g8, g9, g38, g39, g40, g14, g85, g86, g87, e1, g111, g112, g113, e3, e4, e11, e12, e5, e6, e8, e9, e10, e13, e14, e15]); (case h2 => simp (disch := first | omega | assumption) only [↓reduceIte, go_sem, g0, g5, g7, g8, g9, g38, g39, g40, g14, g85, g86, g87, e1, g111, g112, g113, e3, e4, e11, e12, e5, e6, e8, e9, e10, e13, e14, e15]); (case h3 => simp (disch := first | omega | assumption) only [↓reduceIte, go_sem, g0, g5, g7, g8, g9, g38, g39, g40, g14, g85, g86, g87, e1, g111, g112, g113, e3, e4, e11, e12, e5, e6, e8, e9, e10, e13, e14, e15]); (case hb => simp (disch := first | omega | assumption) only [↓reduceIte, go_sem, g0, g5, g7, g8, g9, g38, g39, g40, g14, g85, g86, g87, e1, g111, g112, g113, e3, e4, e11, e12, e5, e6, e8, e9, e10, e13, e14, e15]); (try simp (disch := first | omega | assumption) only [↓reduceIte, go_sem, g0, g5, g7, g8, g9, g38, g39, g40, g14, g85, g86, g87, e1, g111, g112, g113, e3, e4, e11, e12, e5, e6, e8, e9, e10, e13, e14, e15])) | (apply vopsQ_n; (case hd => rfl); (case hq => (intro K' hk'; repeat (first | simp (maxSteps := 4000000) (disch := first | omega | assumption) only [↓reduceIte, go_sem, g0, g5, g7, g8, g9, g38, g39, g40, g14, g85, g86, g87, e1, g111, g112, g113, e3, e4, e11, e12, e5, e6, e8, e9, e10, e13, e14, e15] | with_reducible refine Gst.now ?_ | with_reducible refine vawp_draw mixed (by kernel_rfl) ?_ | with_reducible first | refine lwV_out ?_ | refine lwV_out0 ?_ | refine lkC_out ?_ | refine And.intro (by omega) ?_ | fail); exact hk'))) | (apply vopsQ_gt; (case hd => rfl); (case h1 => rfl); (case h2 => rfl); (case h3 => simp (disch := first | omega | assumption) only [↓reduceIte, go_sem]); (case hq => (intro K' hk'; repeat (first | simp (maxSteps := 4000000) (disch := first | omega | assumption) only [↓reduceIte, go_sem, g0, g5, g7, g8, g9, g38, g39, g40, g14, g85, g86, g87, e1, g111, g112, g113, e3, e4, e11, e12, e5, e6, e8, e9, e10, e13, e14, e15] | with_reducible refine Gst.now ?_ | with_reducible refine vawp_draw mixed (by kernel_rfl) ?_ | with_reducible first | refine lwV_out ?_ | refine lwV_out0 ?_ | refine lkC_out ?_ | refine And.intro (by omega) ?_ | fail); exact hk'))) | (apply vopsQ_gf'; (case hd => rfl); (case h1 => rfl); (case h2 => rfl); (case h3 => simp (disch := first | omega | assumption) only [↓reduceIte, go_sem, g0, g5, g7, g8, g9, g38, g39, g40, g14, g85, g86, g87, e1, g111, g112, g113, e3, e4, e11, e12, e5, e6, e8, e9, e10, e13, e14, e15])) | (apply vopsQ_gj; (case hd => rfl); (case h1 => rfl); (case h2 => rfl); (case h3 => simp (disch := first | omega | assumption) only [↓reduceIte, go_sem, g0, g5, g7, g8, g9, g38, g39, g40, g14, g85, g86, g87, e1, g111, g112, g113, e3, e4, e11, e12, e5, e6, e8, e9, e10, e13, e14, e15])) | (apply vopsQ_gpk; (case hd => rfl); (case h1 => rfl); (case h2 => rfl); (case h3 => simp (disch := first | omega | assumption) only [↓reduceIte, go_sem, g0, g5, g7, g8, g9, g38, g39, g40, g14, g85, g86, g87, e1, g111, g112, g113, e3, e4, e11, e12, e5, e6, e8, e9, e10, e13, e14, e15]); (case k1 => simp (disch := first | omega | assumption) only [↓reduceIte, go_sem, g0, g5, g7, g8, g9, g38, g39, g40, g14, g85, g86, g87, e1, g111, g112, g113, e3, e4, e11, e12, e5, e6, e8, e9, e10, e13, e14, e15]); (case k2 => simp (disch := first | omega | assumption) only [↓reduceIte, go_sem, g0, g5, g7, g8, g9, g38, g39, g40, g14, g85, g86, g87, e1, g111, g112, g113, e3, e4, e11, e12, e5, e6, e8, e9, e10, e13, e14, e15]); (case k3 => simp (disch := first | omega | assumption) only [↓reduceIte, go_sem, g0, g5, g7, g8, g9, g38, g39, g40, g14, g85, g86, g87, e1, g111, g112, g113, e3, e4, e11, e12, e5, e6, e8, e9, e10, e13, e14, e15]); (case hb => (intro hc; (try simp (disch := first | omega | assumption) only [↓reduceIte, go_sem, g0, g5, g7, g8, g9, g38, g39, g40, g14, g85, g86, g87, e1, g111, g112, g113, e3, e4, e11, e12, e5, e6, e8, e9, e10, e13, e14, e15] at hc); simp (disch := first | omega | assumption) only [↓reduceIte, go_sem, hc, g0, g5, g7, g8, g9, g38, g39, g40, g14, g85, g86, g87, e1, g111, g112, g113, e3, e4, e11, e12, e5, e6, e8, e9, e10, e13, e14, e15])); (try simp (disch := first | omega | assumption) only [↓reduceIte, go_sem, g0, g5, g7, g8, g9, g38, g39, g40, g14, g85, g86, g87, e1, g111, g112, g113, e3, e4, e11, e12, e5, e6, e8, e9, e10, e13, e14, e15])) | (apply vopsQ_gu; (case hd => rfl); (case h1 => rfl); (case h2 => rfl); (case h3 => simp (disch := first | omega | assumption) only [↓reduceIte, go_sem, g0, g5, g7, g8, g9, g38, g39, g40, g14, g85, g86, g87, e1, g111, g112, g113, e3, e4, e11, e12, e5, e6, e8, e9, e10, e13, e14, e15]); (case hq => (intro hc K' hk'; (try simp (disch := first | omega | assumption) only [↓reduceIte, go_sem, g0, g5, g7, g8, g9, g38, g39, g40, g14, g85, g86, g87, e1, g111, g112, g113, e3, e4, e11, e12, e5, e6, e8, e9, e10, e13, e14, e15] at hc); repeat (first | simp (maxSteps := 4000000) (disch := first | omega | assumption) only [↓reduceIte, go_sem, hc, g0, g5, g7, g8, g9, g38, g39, g40, g14, g85, g86, g87, e1, g111, g112, g113, e3, e4, e11, e12, e5, e6, e8, e9, e10, e13, e14, e15] | with_reducible refine Gst.now ?_ | with_reducible refine vawp_draw mixed (by kernel_rfl) ?_ | with_reducible first | refine lwV_out ?_ | refine lwV_out0 ?_ | refine lkC_out ?_ | refine And.intro (by omega) ?_ | fail); exact hk')); (try simp (disch := first | omega | assumption) only [↓reduceIte, go_sem, g0, g5, g7, g8, g9, g38, g39, g40, g14, g85, g86, g87, e1, g111, g112, g113, e3, e4, e11, e12, e5, e6, e8, e9, e10, e13, e14, e15])) | fail)
                  first | (apply vopsQ_n; (case hd => rfl)) | (apply vopsQ_gt; (case hd => rfl); (case h1 => rfl); (case h2 => rfl); (case h3 => simp (disch := first | omega | assumption) only [↓reduceIte, go_sem]))
                  case hq => (intro K' hk'; repeat (first | simp (maxSteps := 4000000) (disch := first | omega | assumption) only [↓reduceIte, go_sem] | with_reducible refine Gst.now ?_ | with_reducible refine vawp_draw mixed (by kernel_rfl) ?_ | with_reducible first | refine lwV_out ?_ | refine lwV_out0 ?_ | refine lkC_out ?_ | refine And.intro (by omega) ?_ | fail); refine call_ok ?_; refine same_t p3 (by rw [List.length_take, List.length_drop]; omega) rfl (by rw [List.length_take, List.length_drop]; omega) ?_; exact hk')
                  repeat (first | (apply vopsQ_pk; (case hd => rfl); (case h1 => simp (disch := first | omega | assumption) only [↓reduceIte, go_sem, g0, g5, g7, g8, g9, g38, g39, g40, g14, g85, g86, g87, e1, g111, g112, g113, e3, e4, e11, e12, e5, e6, e8, e9, e10, e13, e14, e15]); (case h2 => simp (disch := first | omega | assumption) only [↓reduceIte, go_sem, g0, g5, g7, g8, g9, g38, g39, g40, g14, g85, g86, g87, e1, g111, g112, g113, e3, e4, e11, e12, e5, e6, e8, e9, e10, e13, e14, e15]); (case h3 => simp (disch := first | omega | assumption) only [↓reduceIte, go_sem, g0, g5, g7, g8, g9, g38, g39, g40, g14, g85, g86, g87, e1, g111, g112, g113, e3, e4, e11, e12, e5, e6, e8, e9, e10, e13, e14, e15]); (case hb => simp (disch := first | omega | assumption) only [↓reduceIte, go_sem, g0, g5, g7, g8, g9, g38, g39, g40, g14, g85, g86, g87, e1, g111, g112, g113, e3, e4, e11, e12, e5, e6, e8, e9, e10, e13, e14, e15]); (try simp (disch := first | omega | assumption) only [↓reduceIte, go_sem, g0, g5, g7, g8, g9, g38, g39, g40, g14, g85, g86, g87, e1, g111, g112, g113, e3, e4, e11, e12, e5, e6, e8, e9, e10, e13, e14, e15])) | (apply vopsQ_n; (case hd => rfl); (case hq => (intro K' hk'; repeat (first | simp (maxSteps := 4000000) (disch := first | omega | assumption) only [↓reduceIte, go_sem, g0, g5, g7, g8, g9, g38, g39, g40, g14, g85, g86, g87, e1, g111, g112, g113, e3, e4, e11, e12, e5, e6, e8, e9, e10, e13, e14, e15] | with_reducible refine Gst.now ?_ | with_reducible refine vawp_draw mixed (by kernel_rfl) ?_ | with_reducible first | refine lwV_out ?_ | refine lwV_out0 ?_ | refine lkC_out ?_ | refine And.intro (by omega) ?_ | fail); exact hk'))) | (apply vopsQ_gt; (case hd => rfl); (case h1 => rfl); (case h2 => rfl); (case h3 => simp (disch := first | omega | assumption) only [↓reduceIte, go_sem]); (case hq => (intro K' hk'; repeat (first | simp (maxSteps := 4000000) (disch := first | omega | assumption) only [↓reduceIte, go_sem, g0, g5, g7, g8, g9, g38, g39, g40, g14, g85, g86, g87, e1, g111, g112, g113, e3, e4, e11, e12, e5, e6, e8, e9, e10, e13, e14, e15] | with_reducible refine Gst.now ?_ | with_reducible refine vawp_draw mixed (by kernel_rfl) ?_ | with_reducible first | refine lwV_out ?_ | refine lwV_out0 ?_ | refine lkC_out ?_ | refine And.intro (by omega) ?_ | fail); exact hk'))) | (apply vopsQ_gf'; (case hd => rfl); (case h1 => rfl); (case h2 => rfl); (case h3 => simp (disch := first | omega | assumption) only [↓reduceIte, go_sem, g0, g5, g7, g8, g9, g38, g39, g40, g14, g85, g86, g87, e1, g111, g112, g113, e3, e4, e11, e12, e5, e6, e8, e9, e10, e13, e14, e15])) | (apply vopsQ_gj; (case hd => rfl); (case h1 => rfl); (case h2 => rfl); (case h3 => simp (disch := first | omega | assumption) only [↓reduceIte, go_sem, g0, g5, g7, g8, g9, g38, g39, g40, g14, g85, g86, g87, e1, g111, g112, g113, e3, e4, e11, e12, e5, e6, e8, e9, e10, e13, e14, e15])) | (apply vopsQ_gpk; (case hd => rfl); (case h1 => rfl); (case h2 => rfl); (case h3 => simp (disch := first | omega | assumption) only [↓reduceIte, go_sem, g0, g5, g7, g8, g9, g38, g39, g40, g14, g85, g86, g87, e1, g111, g112, g113, e3, e4, e11, e12, e5, e6, e8, e9, e10, e13, e14, e15]); (case k1 => simp (disch := first | omega | assumption) only [↓reduceIte, go_sem, g0, g5, g7, g8, g9, g38, g39, g40, g14, g85, g86, g87, e1, g111, g112, g113, e3, e4, e11, e12, e5, e6, e8, e9, e10, e13, e14, e15]); (case k2 => simp (disch := first | omega | assumption) only [↓reduceIte, go_sem, g0, g5, g7, g8, g9, g38, g39, g40, g14, g85, g86, g87, e1, g111, g112, g113, e3, e4, e11, e12, e5, e6, e8, e9, e10, e13, e14, e15]); (case k3 => simp (disch := first | omega | assumption) only [↓reduceIte, go_sem, g0, g5, g7, g8, g9, g38, g39, g40, g14, g85, g86, g87, e1, g111, g112, g113, e3, e4, e11, e12, e5, e6, e8, e9, e10, e13, e14, e15]); (case hb => (intro hc; (try simp (disch := first | omega | assumption) only [↓reduceIte, go_sem, g0, g5, g7, g8, g9, g38, g39, g40, g14, g85, g86, g87, e1, g111, g112, g113, e3, e4, e11, e12, e5, e6, e8, e9, e10, e13, e14, e15] at hc); simp (disch := first | omega | assumption) only [↓reduceIte, go_sem, hc, g0, g5, g7, g8, g9, g38, g39, g40, g14, g85, g86, g87, e1, g111, g112, g113, e3, e4, e11, e12, e5, e6, e8, e9, e10, e13, e14, e15])); (try simp (disch := first | omega | assumption) only [↓reduceIte, go_sem, g0, g5, g7, g8, g9, g38, g39, g40, g14, g85, g86, g87, e1, g111, g112, g113, e3, e4, e11, e12, e5, e6, e8, e9, e10, e13, e14, e15])) | (apply vopsQ_gu; (case hd => rfl); (case h1 => rfl); (case h2 => rfl); (case h3 => simp (disch := first | omega | assumption) only [↓reduceIte, go_sem, g0, g5, g7, g8, g9, g38, g39, g40, g14, g85, g86, g87, e1, g111, g112, g113, e3, e4, e11, e12, e5, e6, e8, e9, e10, e13, e14, e15]); (case hq => (intro hc K' hk'; (try simp (disch := first | omega | assumption) only [↓reduceIte, go_sem, g0, g5, g7, g8, g9, g38, g39, g40, g14, g85, g86, g87, e1, g111, g112, g113, e3, e4, e11, e12, e5, e6, e8, e9, e10, e13, e14, e15] at hc); repeat (first | simp (maxSteps := 4000000) (disch := first | omega | assumption) only [↓reduceIte, go_sem, hc, g0, g5, g7, g8, g9, g38, g39, g40, g14, g85, g86, g87, e1, g111, g112, g113, e3, e4, e11, e12, e5, e6, e8, e9, e10, e13, e14, e15] | with_reducible refine Gst.now ?_ | with_reducible refine vawp_draw mixed (by kernel_rfl) ?_ | with_reducible first | refine lwV_out ?_ | refine lwV_out0 ?_ | refine lkC_out ?_ | refine And.intro (by omega) ?_ | fail); exact hk')); (try simp (disch := first | omega | assumption) only [↓reduceIte, go_sem, g0, g5, g7, g8, g9, g38, g39, g40, g14, g85, g86, g87, e1, g111, g112, g113, e3, e4, e11, e12, e5, e6, e8, e9, e10, e13, e14, e15])) | fail)
                  simp only [vopsQ_nil]
                  refine vany_end (by kernel_rfl) ?_
                  repeat (first | (simp (maxSteps := 1000000) only [↓reduceIte, go_sem, g0, g5, g7, g8, g9, g38, g39, g40, g14, g85, g86, g87, e1, g111, g112, g113, e3, e4, e11, e12, e5, e6, e8, e9, e10, e13, e14, e15]) | (simp (maxSteps := 1000000) (disch := first | omega | assumption) only [BB, g0, g5, g7, g8, g9, g38, g39, g40, g14, g85, g86, g87, e1, g111, g112, g113, e3, e4, e11, e12, e5, e6, e8, e9, e10, e13, e14, e15]) | with_reducible refine Gst.now ?_ | with_reducible refine vawp_draw mixed (by kernel_rfl) ?_ | with_reducible first | refine lwV_out ?_ | refine lwV_out0 ?_ | refine lkC_out ?_ | refine And.intro (by omega) ?_ | fail)
                  refine ⟨d - 1, by omega, i + 1, by omega, ?_⟩
                  repeat (first | (simp (maxSteps := 1000000) only [↓reduceIte, go_sem, g0, g5, g7, g8, g9, g38, g39, g40, g14, g85, g86, g87, e1, g111, g112, g113, e3, e4, e11, e12, e5, e6, e8, e9, e10, e13, e14, e15]) | (simp (maxSteps := 1000000) (disch := first | omega | assumption) only [BB, g0, g5, g7, g8, g9, g38, g39, g40, g14, g85, g86, g87, e1, g111, g112, g113, e3, e4, e11, e12, e5, e6, e8, e9, e10, e13, e14, e15]) | with_reducible refine Gst.now ?_ | with_reducible refine vawp_draw mixed (by kernel_rfl) ?_ | with_reducible first | refine lwV_out ?_ | refine lwV_out0 ?_ | refine lkC_out ?_ | refine And.intro (by omega) ?_ | fail)
                · have e1 := eq_false hi
                  repeat (first | (simp (maxSteps := 1000000) only [↓reduceIte, go_sem, g0, g5, g7, g8, g9, g38, g39, g40, g14, g85, g86, g87, e1, g111, g112, g113]) | (simp (maxSteps := 1000000) (disch := first | omega | assumption) only [BB, g0, g5, g7, g8, g9, g38, g39, g40, g14, g85, g86, g87, e1, g111, g112, g113]) | with_reducible refine Gst.now ?_ | with_reducible refine vawp_draw mixed (by kernel_rfl) ?_ | with_reducible first | refine lwV_out ?_ | refine lwV_out0 ?_ | refine lkC_out ?_ | refine And.intro (by omega) ?_ | fail)
                  refine call_ok (join_u (rs := R) hja.symm hlX.symm (by omega) (by omega) ?_)
                  repeat (first | (simp (maxSteps := 1000000) only [↓reduceIte, go_sem, g0, g5, g7, g8, g9, g38, g39, g40, g14, g85, g86, g87, e1, g111, g112, g113]) | (simp (maxSteps := 1000000) (disch := first | omega | assumption) only [BB, g0, g5, g7, g8, g9, g38, g39, g40, g14, g85, g86, g87, e1, g111, g112, g113]) | with_reducible refine Gst.now ?_ | with_reducible refine vawp_draw mixed (by kernel_rfl) ?_ | with_reducible first | refine lwV_out ?_ | refine lwV_out0 ?_ | refine lkC_out ?_ | refine And.intro (by omega) ?_ | fail)
                  refine call_ok (same_t rfl rfl rfl (by omega) ?_)
                  repeat (first | (simp (maxSteps := 1000000) only [↓reduceIte, go_sem, g0, g5, g7, g8, g9, g38, g39, g40, g14, g85, g86, g87, e1, g111, g112, g113]) | (simp (maxSteps := 1000000) (disch := first | omega | assumption) only [BB, g0, g5, g7, g8, g9, g38, g39, g40, g14, g85, g86, g87, e1, g111, g112, g113]) | with_reducible refine Gst.now ?_ | with_reducible refine vawp_draw mixed (by kernel_rfl) ?_ | with_reducible first | refine lwV_out ?_ | refine lwV_out0 ?_ | refine lkC_out ?_ | refine And.intro (by omega) ?_ | fail)
                  refine hq _ _ ?_
                  repeat (first | (simp (maxSteps := 1000000) only [↓reduceIte, go_sem, g0, g5, g7, g8, g9, g38, g39, g40, g14, g85, g86, g87, e1, g111, g112, g113]) | (simp (maxSteps := 1000000) (disch := first | omega | assumption) only [BB, g0, g5, g7, g8, g9, g38, g39, g40, g14, g85, g86, g87, e1, g111, g112, g113]) | with_reducible refine Gst.now ?_ | with_reducible refine vawp_draw mixed (by kernel_rfl) ?_ | with_reducible first | refine lwV_out ?_ | refine lwV_out0 ?_ | refine lkC_out ?_ | refine And.intro (by omega) ?_ | fail)
                  exact .now (hK _)
end
end Go.Proofs.Ytbmikefignmkdaa.VFills
