/- the laws of chapter 21, over the machine of values: VolumeBack; a copy of a table whose rows are one's own. -/
import Derived.Test.YtgdhfabiljgdpaaProg
import Derived.Test.YtgdhfabiljgdpaaAbV16
import Derived.Test.YtgdhfabiljgdpaaAbFacts
import Derived.Test.YtgdhfabiljgdpaaAbVRows
import Derived.Test.YtgdhfabiljgdpaaAbVRows2
import Derived.Test.YtgdhfabiljgdpaaAbVRows3
import Derived.Test.YtgdhfabiljgdpaaAbVSlots
import Derived.Test.YtgdhfabiljgdpaaAbVSame
import Derived.Test.YtgdhfabiljgdpaaAbVSlots2
import Derived.Test.YtgdhfabiljgdpaaAbVSlots3
import Derived.Test.YtgdhfabiljgdpaaAbVLaw
import Derived.Test.YtgdhfabiljgdpaaAbVLawB
import Derived.KernelRfl
import Derived.Laws.BitsAllLaws
set_option linter.unusedVariables false
set_option linter.unusedSimpArgs false
set_option maxRecDepth 100000
set_option maxHeartbeats 4000000
namespace Go.Proofs.Ytgdhfabiljgdpaa.VBack
open Go.RowKit Go.Proofs.AbM Go.Proofs.Ytgdhfabiljgdpaa.Facts Go.Proofs.Ytgdhfabiljgdpaa.VRows Go.Proofs.Ytgdhfabiljgdpaa.VRows2 Go.Proofs.Ytgdhfabiljgdpaa.VRows3 Go.Proofs.Ytgdhfabiljgdpaa.VSlots Go.Proofs.Ytgdhfabiljgdpaa.VSame Go.Proofs.Ytgdhfabiljgdpaa.VSlots2 Go.Proofs.Ytgdhfabiljgdpaa.VSlots3 Go.Proofs.Ytgdhfabiljgdpaa.VLaw Go.Proofs.Ytgdhfabiljgdpaa.VLawB
attribute [local go_sem] vawp_skip_eq vawp_seq_eq vawp_region_eq vawp_cond_g vawp_block_eq vawp_exit_eq vawp_ret_eq thenV_ret thenV_exit thenV_normal inBlockV_normal inBlockV_ret inBlockV_exit resKV_nil resKV_tmp resKV_cell oneV_one oneV_nil oneV_more initV_nil initV_cons updV_at evv_tmp evv_func evv_global evv_int evv_bool evv_str evv_snil evv_pnil evv_agg ofV3_int ofV3_bool ofV3_str ofV3_snil ofV3_pnil vok_tmp vok_func vok_global vok_int vok_bool vok_str vok_snil vok_pnil vok_agg cloV3_int cloV3_bool cloV3_str cloV3_snil cloV3_pnil voks_nil voks_cons scV_int scV_bool scV_str isBlV_b isBV_t isBV_f lwV_none lwV_sc lwV_agg lwV_tup lwV_isl lwV_own lwV_op lwV_ip lwV_fn lwV_junk vops_nil vops_n vops_s gsN_eq vop dstOk_some dstOk_none pkV_b blkV_set eRead_f eRead_t vLoad_op vLoad_ip vStore_op cells_sc cells_isl cells_own cells_op cells_ip cells_fn cells_agg parts_sc parts_isl parts_own parts_op parts_ip parts_fn parts_agg one_sc one_isl one_own one_op one_ip one_fn vField_op vField_ip ePart_f ePart_t vFieldV_agg vIx_isl vIx_own vIx_op vIx_ip vIxV_agg vIxV_str vLen_str vLen_isl vLen_own vLen_agg bndE_none bndE_int vSlice_isl vSlice_str vBin_add vBin_sub vBin_mul vBin_quo vBin_rem vBin_and vBin_or vBin_xor vBin_andNot vBin_eql vBin_neq vBin_lss vBin_leq vBin_gtr vBin_geq vBin_shr_i8 vBin_shl_i8 vBin_shr_i16 vBin_shl_i16 vBin_shr_i32 vBin_shl_i32 vBin_shr_i64 vBin_shl_i64 vBin_shr_u8 vBin_shl_u8 vBin_shr_u16 vBin_shl_u16 vBin_shr_u32 vBin_shl_u32 vBin_shr_u64 vBin_shl_u64 vBin_seq vBin_sne vBin_isln vBin_opn vBin_ipn ex_sc ex_sc2 ex_sc3 ex_tup calleeV wSc_pb wSc_pi wSc_not wSc_neg wSc_com wSc_min2 wSc_max2 vfold_nil vfold_one vfold_cons vfill_nil vfill_e eFill_s vBuild vBox vAlloc setV_map setV_zs setV_zn setV_s hset_hset eConv_ss vConv_e iv_eq ivI_eq ex_get ex_getI set_iv set_ivI okNil isNilV isSlV hdel_at hset_at List.map_toArray List.map_cons List.map_nil List.nil_append List.cons_append List.append_nil List.toList_toArray List.getElem?_toArray List.getElem_toArray List.getElem_cons_zero List.getElem_cons_succ List.getElem?_cons_zero List.getElem?_cons_succ List.set_cons_zero List.set_cons_succ List.set_set List.length_cons List.length_nil List.length_set List.length_map List.all_cons List.all_nil List.drop_zero List.drop_succ_cons List.take_succ_cons List.take_zero List.flatMap_cons Bool.and_eq_true true_and and_true if_true if_false ite_true ite_false forall_eq' forall_eq exists_eq_left exists_eq_left' exists_eq' Value.bool.injEq Value.int.injEq Value.string.injEq Value.pointer.injEq Option.some.injEq AV.sc.injEq AV.op.injEq AV.ip.injEq AV.own.injEq AV.agg.injEq VB.cells.injEq VB.iter.injEq Prod.mk.injEq decide_eq_true_eq decide_eq_false_iff_not Nat.reduceEqDiff Nat.reduceLT Nat.reduceLeDiff Nat.reduceSub Nat.reduceBEq reduceIte Int.reduceLE Int.reduceLT Int.reduceToNat Int.reduceNeg Int.reduceEq Int.reduceNe Int.cast_ofNat_Int Nat.reduceMul Nat.reduceAdd Nat.reduceDiv Nat.reduceMod Nat.reducePow Int.reduceSub Int.reduceAdd Int.reduceMul Int.reducePow Option.isSome_some Option.isSome_none Option.bind_some Option.map_some Option.map_none Option.toList_some Option.toList_none true_or or_true or_false false_or Bool.not_true Bool.not_false Bool.not_eq_true Bool.false_eq_true Bool.not_not false_implies true_implies implies_true Nat.zero_add Nat.add_zero Nat.mul_one Bool.not_eq_true' Bool.true_eq_false Bool.and_true Bool.true_and Bool.and_false Bool.false_and Bool.or_true Bool.true_or Bool.or_false Bool.false_or Option.isNone_some Option.isNone_none Int.reduceBEq Int.reduceBNe beq_self_eq_true bne_self_eq_false beq_iff_eq not_false_eq_true not_true_eq_false Decidable.not_not bne_iff_ne ne_eq Int.toNat_natCast gt_lt ge_le c_add c_mul c_sub c_addn c_nadd c_muln c_nmul c_subn c_nsub c_divn c_modn c_div c_mod c_tdivn c_tmodn c_tdiv c_tmod c_pow c_nn c_beq c_beqn c_bne c_bnen wr64 wr32 wru64 wru32 wru16 wru8 c_if c_if1 c_if2 c_lt c_le c_eq c_ltn c_len c_nlt c_nle c_eqn m_drop m_take Nat.add_sub_cancel_left Nat.add_sub_cancel Int.reduceTMod Int.reduceTDiv Int.reduceMod Int.reduceDiv isC_some hset_ne hdel_ne hdel_hset hdel_hset_ne blkV_nset blkV_ndel hset_hdel gV_t gV_f isGdV_b isGdV_u isBV_u isGdV_g isBV_gt isBV_gf decide_true decide_false Bool.or_eq_false_iff eq_self Nat.lt_irrefl Int.lt_irrefl Nat.le_refl Int.le_refl
attribute [local go_sem high] vops_pk vops_mv vops_as vops_smv pk_and pk_or pk_gand pk_gor pk_orn pk_gorn
attribute [local go_sem] ag3 sz3 zc3 ik3 ag4 sz4 zc4 ag5 sz5 zc5 ik5 ag9 sz9 zc9 iq9 ag22 sz22 el22 zc22 is22 ag24 sz24 el24 zc24 is24 ag25 sz25 el25 zc25 is25 ag27 sz27 zc27 bo27 ag29 sz29 zc29 ik29 ag41 sz41 zc41 eqs41 nes41 bo41 ag55 sz55 zc55 of27_0 fd27_0 of27_1 fd27_1 of41_0 fd41_0 of41_1 fd41_1 eqb neb
section
variable {n : Nat} {h : VH} {K : AV → VH → Prop}
attribute [local go_sem] rowC rowA ex_row row_len row_take row_drop Nat.sub_zero Nat.zero_le slotC ex_slot0 ex_slot1 slot_len slot_take
theorem clone_o {nl : Bool} {l : Nat} {xs : List Nat} (hl : l = xs.length) (hnl : nl = true → xs = []) (hb : xs.length ≤ 140737488355328) (hK0 : nl = true → K (.isl true 0 []) h) (hK1 : nl = false → ∀ q, h q = none → K (.own q 0 xs.length) (hset h q (.cells 5 false (xs.map (iv .u8))))) : VC Try.prog GL (n + 1) 23 [.isl nl l (xs.map (iv .u8))] h K := by
  refine VC_go Try.func23 rfl (by decide) Try.ntmps23 Try.results23 rfl fun Q hq hn => ?_
  subst hl
  repeat (first | (simp (maxSteps := 1000000) only [↓reduceIte, go_sem]) | (simp (maxSteps := 1000000) (disch := first | omega | assumption) only [BB]) | with_reducible refine Gst.now ?_ | with_reducible refine vawp_draw mixed (by kernel_rfl) ?_ | with_reducible first | refine lwV_out ?_ | refine lwV_out0 ?_ | refine lkC_out ?_ | refine And.intro (by omega) ?_ | fail)
  cases nl with
  | true =>
    have := hnl rfl
    subst this
    repeat (first | (simp (maxSteps := 1000000) only [↓reduceIte, go_sem]) | (simp (maxSteps := 1000000) (disch := first | omega | assumption) only [BB]) | with_reducible refine Gst.now ?_ | with_reducible refine vawp_draw mixed (by kernel_rfl) ?_ | with_reducible first | refine lwV_out ?_ | refine lwV_out0 ?_ | refine lkC_out ?_ | refine And.intro (by omega) ?_ | fail)
    refine hq _ _ ?_
    repeat (first | (simp (maxSteps := 1000000) only [↓reduceIte, go_sem]) | (simp (maxSteps := 1000000) (disch := first | omega | assumption) only [BB]) | with_reducible refine Gst.now ?_ | with_reducible refine vawp_draw mixed (by kernel_rfl) ?_ | with_reducible first | refine lwV_out ?_ | refine lwV_out0 ?_ | refine lkC_out ?_ | refine And.intro (by omega) ?_ | fail)
    exact .now (hK0 rfl)
  | false =>
    repeat (first | (simp (maxSteps := 1000000) only [↓reduceIte, go_sem]) | (simp (maxSteps := 1000000) (disch := first | omega | assumption) only [BB]) | with_reducible refine Gst.now ?_ | with_reducible refine vawp_draw mixed (by kernel_rfl) ?_ | with_reducible first | refine lwV_out ?_ | refine lwV_out0 ?_ | refine lkC_out ?_ | refine And.intro (by omega) ?_ | fail)
    refine vBuildS_o bs25 ?_ ?_ ?_ ?_ ?_
    rfl
    rfl
    rfl
    rfl
    intro j hj
    repeat (first | (simp (maxSteps := 1000000) only [↓reduceIte, go_sem]) | (simp (maxSteps := 1000000) (disch := first | omega | assumption) only [BB]) | with_reducible refine Gst.now ?_ | with_reducible refine vawp_draw mixed (by kernel_rfl) ?_ | with_reducible first | refine lwV_out ?_ | refine lwV_out0 ?_ | refine lkC_out ?_ | refine And.intro (by omega) ?_ | fail)
    apply vApp_own_isl ap25 (by simp only [go_sem])
    case hv => first | (simp []; done) | (simp []; omega) | rfl | assumption
    case hj => repeat (first | exact hset_at _ _ _ | assumption | refine (hset_ne _ _ (by first | omega | assumption)).trans ?_ | refine (hdel_ne _ (by first | omega | assumption)).trans ?_ | fail)
    case hl => first | (simp []; done) | (simp []; omega) | rfl | assumption
    case h1 => first | omega | (simp []; omega) | (simp []; done)
    case h2 => first | omega | (simp []; omega) | (simp []; done)
    intro j' hj'
    try simp (disch := first | omega | assumption) only [go_sem, hset_none, hdel_none] at hj'
    try simp (disch := first | omega | assumption) only [hset_none, hdel_none] at hj'
    repeat (first | (simp (maxSteps := 1000000) only [↓reduceIte, go_sem]) | (simp (maxSteps := 1000000) (disch := first | omega | assumption) only [BB]) | with_reducible refine Gst.now ?_ | with_reducible refine vawp_draw mixed (by kernel_rfl) ?_ | with_reducible first | refine lwV_out ?_ | refine lwV_out0 ?_ | refine lkC_out ?_ | refine And.intro (by omega) ?_ | fail)
    refine hq _ _ ?_
    repeat (first | (simp (maxSteps := 1000000) only [↓reduceIte, go_sem]) | (simp (maxSteps := 1000000) (disch := first | omega | assumption) only [BB]) | with_reducible refine Gst.now ?_ | with_reducible refine vawp_draw mixed (by kernel_rfl) ?_ | with_reducible first | refine lwV_out ?_ | refine lwV_out0 ?_ | refine lkC_out ?_ | refine And.intro (by omega) ?_ | fail)
    exact .now (hK1 rfl j' hj')
/-- the cell of a row: nil, or one's own -/
def rowW (q : Nat) (r : RowV) : AV := if r.nl = true then .isl true 0 [] else .own q 0 r.bs.length
theorem rowW_one (q : Nat) (r : RowV) : (rowW q r).one = true := by unfold rowW; split <;> rfl
def clC : List SlotV → List Nat → List AV
  | s :: ss, q :: qs => (.sc (.bool (s.there))) :: rowW q s.row :: clC ss qs
  | _, _ => []
theorem clC_snoc : ∀ (ss : List SlotV) (qs : List Nat) (s : SlotV) (q : Nat), qs.length = ss.length → clC (ss ++ [s]) (qs ++ [q]) = clC ss qs ++ [(.sc (.bool (s.there))), rowW q s.row]
  | [], [], _, _, _ => rfl
  | [], _ :: _, _, _, h => by simp at h
  | _ :: _, [], _, _, h => by simp at h
  | a :: ss, b :: qs, s, q, h => by
    simp only [List.cons_append, clC, clC_snoc ss qs s q (by simpa using h)]
theorem clC_len : ∀ (ss : List SlotV) (qs : List Nat), qs.length = ss.length → (clC ss qs).length = ss.length * 2
  | [], [], _ => rfl
  | [], _ :: _, h => by simp at h
  | _ :: _, [], h => by simp at h
  | a :: ss, b :: qs, h => by
    simp only [clC, List.length_cons, clC_len ss qs (by simpa using h)]
    omega
theorem clC_get1 : ∀ (ss : List SlotV) (qs : List Nat) (i : Nat), qs.length = ss.length → i < ss.length → (clC ss qs)[i * 2 + 1]? = some (rowW (qs.getD i 0) (ss.getD i default).row)
  | [], [], _, _, hi => by simp at hi
  | [], _ :: _, _, h, _ => by simp at h
  | _ :: _, [], _, h, _ => by simp at h
  | a :: ss, b :: qs, 0, h, hi => rfl
  | a :: ss, b :: qs, i + 1, h, hi => by
    rw [show (i + 1) * 2 + 1 = i * 2 + 1 + 1 + 1 by omega]
    simp only [clC, List.getElem?_cons_succ]
    rw [clC_get1 ss qs i (by simpa using h) (by simpa using hi)]
    rfl
/-- a table whose rows are one's own -/
structure OwnT (h1 : VH) (j : Nat) (nl2 : Bool) (ss : List SlotV) (qs : List Nat) : Prop where
  len : qs.length = ss.length
  outer : h1 j = some (.cells 27 nl2 (clC ss qs))
  nlz : nl2 = true → ss = []
  row : ∀ i, i < ss.length → (ss.getD i default).row.nl = false → h1 (qs.getD i 0) = some (.cells 5 false ((ss.getD i default).row.bs.map (iv .u8))) ∧ qs.getD i 0 ≠ j
  dif : ∀ i k, i < k → k < ss.length → (ss.getD i default).row.nl = false → (ss.getD k default).row.nl = false → qs.getD i 0 ≠ qs.getD k 0
theorem getD_snoc_lt {α : Type} {xs : List α} {y d : α} {i : Nat} (hi : i < xs.length) : (xs ++ [y]).getD i d = xs.getD i d := by
  rw [List.getD_eq_getElem?_getD, List.getD_eq_getElem?_getD, List.getElem?_append_left hi]
theorem getD_snoc_eq {α : Type} {xs : List α} {y d : α} : (xs ++ [y]).getD xs.length d = y := by
  rw [List.getD_eq_getElem?_getD, List.getElem?_append_right (Nat.le_refl _), Nat.sub_self]; rfl
theorem OwnT.app {h1 h2 : VH} {j j' q : Nat} {nl2 : Bool} {ss : List SlotV} {qs : List Nat} {s : SlotV} (I : OwnT h1 j nl2 ss qs) (h12 : (s.row.nl = true ∧ h2 = h1) ∨ (s.row.nl = false ∧ h1 q = none ∧ h2 = hset h1 q (.cells 5 false (s.row.bs.map (iv .u8))))) (ho : hdel h2 j j' = none) : OwnT (hset (hdel h2 j) j' (.cells 27 false (clC ss qs ++ [(.sc (.bool (s.there))), rowW q s.row]))) j' false (ss ++ [s]) (qs ++ [q]) := by
  have hne : ∀ x b, h1 x = some b → x ≠ j → hset (hdel h2 j) j' (.cells 27 false (clC ss qs ++ [(.sc (.bool (s.there))), rowW q s.row])) x = h1 x ∧ x ≠ j' ∧ (s.row.nl = false → x ≠ q) := by
    intro x b hx hxj
    have e2 : h2 x = h1 x ∧ (s.row.nl = false → x ≠ q) := by
      rcases h12 with ⟨a1, rfl⟩ | ⟨a1, a2, rfl⟩
      · exact ⟨rfl, fun hh => by rw [a1] at hh; cases hh⟩
      · have hxq : x ≠ q := fun hh => by rw [hh, a2] at hx; cases hx
        exact ⟨hset_ne _ _ hxq, fun _ => hxq⟩
    have hxj' : x ≠ j' := fun hh => by
      rw [← hh, hdel_ne _ hxj, e2.1, hx] at ho; cases ho
    exact ⟨by rw [hset_ne _ _ hxj', hdel_ne _ hxj, e2.1], hxj', e2.2⟩
  have hlast : s.row.nl = false → hset (hdel h2 j) j' (.cells 27 false (clC ss qs ++ [(.sc (.bool (s.there))), rowW q s.row])) q = some (.cells 5 false (s.row.bs.map (iv .u8))) ∧ q ≠ j' := by
    intro hh
    rcases h12 with ⟨a1, rfl⟩ | ⟨a1, a2, rfl⟩
    · rw [a1] at hh; cases hh
    · have hqj : q ≠ j := fun hh => by rw [hh, I.outer] at a2; cases a2
      have hqj' : q ≠ j' := fun hh => by rw [← hh, hdel_ne _ hqj, hset_at] at ho; cases ho
      exact ⟨by rw [hset_ne _ _ hqj', hdel_ne _ hqj]; exact hset_at _ _ _, hqj'⟩
  refine ⟨by simp [I.len], ?_, (fun hh => nomatch hh), fun i hi hn => ?_, fun i k hik hk hn1 hn2 => ?_⟩
  · rw [clC_snoc _ _ _ _ I.len]; exact hset_at _ _ _
  · rw [List.length_append, List.length_singleton] at hi
    by_cases hii : i < ss.length
    · rw [getD_snoc_lt hii] at hn ⊢
      rw [getD_snoc_lt (by rw [I.len]; exact hii)]
      obtain ⟨r1, r2⟩ := I.row i hii hn
      obtain ⟨n1, n2, _⟩ := hne _ _ r1 r2
      exact ⟨n1.trans r1, n2⟩
    · have hie : i = ss.length := by omega
      subst hie
      rw [getD_snoc_eq] at hn ⊢
      rw [show (qs ++ [q]).getD ss.length 0 = q by rw [← I.len]; exact getD_snoc_eq]
      exact hlast hn
  · rw [List.length_append, List.length_singleton] at hk
    have hii : i < ss.length := by omega
    rw [getD_snoc_lt hii] at hn1
    rw [getD_snoc_lt (by rw [I.len]; exact hii)]
    by_cases hkk : k < ss.length
    · rw [getD_snoc_lt hkk] at hn2
      rw [getD_snoc_lt (by rw [I.len]; exact hkk)]
      exact I.dif i k hik hkk hn1 hn2
    · have hke : k = ss.length := by omega
      subst hke
      rw [getD_snoc_eq] at hn2
      rw [show (qs ++ [q]).getD ss.length 0 = q by rw [← I.len]; exact getD_snoc_eq]
      obtain ⟨r1, r2⟩ := I.row i hii hn1
      exact (hne _ _ r1 r2).2.2 hn2
theorem vclone_o {nl : Bool} {l : Nat} {ss : List SlotV} (hl : l = ss.length) (hb : ss.length ≤ 1000000000000) (hr : ∀ s ∈ ss, s.row.bs.length ≤ 140737488355328 ∧ (s.row.nl = true → s.row.bs = [])) (hK : ∀ h' j nl2 qs, OwnT h' j nl2 ss qs → K (.own j 0 ss.length) h') : VC Try.prog GL (n + 2) 15 [.isl nl l (ss.flatMap slotC)] h K := by
  refine VC_go Try.func15 rfl (by decide) Try.ntmps15 Try.results15 rfl fun Q hq hn => ?_
  subst hl
  repeat (first | (simp (maxSteps := 1000000) only [↓reduceIte, go_sem]) | (simp (maxSteps := 1000000) (disch := first | omega | assumption) only [BB]) | with_reducible refine vawp_draw mixed (by kernel_rfl) ?_ | with_reducible first | refine lwV_out ?_ | refine lwV_out0 ?_ | refine lkC_out ?_ | refine And.intro (by omega) ?_ | fail)
  refine .now ?_
  repeat (first | (simp (maxSteps := 1000000) only [↓reduceIte, go_sem]) | (simp (maxSteps := 1000000) (disch := first | omega | assumption) only [BB]) | with_reducible refine vawp_draw mixed (by kernel_rfl) ?_ | with_reducible first | refine lwV_out ?_ | refine lwV_out0 ?_ | refine lkC_out ?_ | refine And.intro (by omega) ?_ | fail)
  refine .mat 3 27 ?_ ?_
  · repeat (first | (simp (maxSteps := 1000000) only [↓reduceIte, go_sem]) | (simp (maxSteps := 1000000) (disch := first | omega | assumption) only [BB]) | with_reducible refine Gst.now ?_ | with_reducible refine vawp_draw mixed (by kernel_rfl) ?_ | with_reducible first | refine lwV_out ?_ | refine lwV_out0 ?_ | refine lkC_out ?_ | refine And.intro (by omega) ?_ | fail)
  · intro j0 hj0
    repeat (first | (simp (maxSteps := 1000000) only [↓reduceIte, go_sem]) | (simp (maxSteps := 1000000) (disch := first | omega | assumption) only [BB]) | with_reducible refine Gst.now ?_ | with_reducible refine vawp_draw mixed (by kernel_rfl) ?_ | with_reducible first | refine lwV_out ?_ | refine lwV_out0 ?_ | refine lkC_out ?_ | refine And.intro (by omega) ?_ | fail)
    refine vawp_loop (k := ss.length) (fun k ρ h1 => ∃ i : Nat, k + i = ss.length ∧ ρ 6 = .isl nl ss.length (ss.flatMap slotC) ∧ ρ 7 = (.sc (.int .i64 (ss.length))) ∧ ρ 8 = (.sc (.int .i64 (i))) ∧ ∃ j nl2 qs, ρ 3 = .own j 0 i ∧ OwnT h1 j nl2 (ss.take i) qs) ?_ ?_
    · refine ⟨0, by omega, ?_⟩
      repeat (first | (simp (maxSteps := 1000000) only [↓reduceIte, go_sem]) | (simp (maxSteps := 1000000) (disch := first | omega | assumption) only [BB]) | with_reducible refine Gst.now ?_ | with_reducible refine vawp_draw mixed (by kernel_rfl) ?_ | with_reducible first | refine lwV_out ?_ | refine lwV_out0 ?_ | refine lkC_out ?_ | refine And.intro (by omega) ?_ | fail)
      exact ⟨j0, true, [], rfl, ⟨rfl, hset_at _ _ _, fun _ => rfl, fun i hi => by simp at hi, fun i k _ hk => by simp at hk⟩⟩
    · rintro k ρ h1 ⟨i, hki, g6, g7, g8, j, nl2, qs, g3, I⟩
      by_cases hi : i < ss.length
      · have e1 := eq_true hi
        have e3 := slot_at ss i hi
        have hrt := hr _ (getD_mem hi)
        have htk := take_snocD hi
        have hlt : (ss.take i).length = i := by rw [List.length_take]; omega
        generalize ss.getD i default = s at *
        obtain ⟨th, r⟩ := s
        simp only at hrt
        repeat (first | (simp (maxSteps := 1000000) only [↓reduceIte, go_sem, g6, g7, g8, g3, e1, e3]) | (simp (maxSteps := 1000000) (disch := first | omega | assumption) only [BB, g6, g7, g8, g3, e1, e3]) | with_reducible refine Gst.now ?_ | with_reducible refine vawp_draw mixed (by kernel_rfl) ?_ | with_reducible first | refine lwV_out ?_ | refine lwV_out0 ?_ | refine lkC_out ?_ | refine And.intro (by omega) ?_ | fail)
        intro p hp
        repeat (first | (simp (maxSteps := 1000000) only [↓reduceIte, go_sem, g6, g7, g8, g3, e1, e3]) | (simp (maxSteps := 1000000) (disch := first | omega | assumption) only [BB, g6, g7, g8, g3, e1, e3]) | with_reducible refine vawp_draw mixed (by kernel_rfl) ?_ | with_reducible first | refine lwV_out ?_ | refine lwV_out0 ?_ | refine lkC_out ?_ | refine And.intro (by omega) ?_ | fail)
        refine .box 5 p hp rfl (.now ?_)
        repeat (first | (simp (maxSteps := 1000000) only [↓reduceIte, go_sem, g6, g7, g8, g3, e1, e3]) | (simp (maxSteps := 1000000) (disch := first | omega | assumption) only [BB, g6, g7, g8, g3, e1, e3]) | with_reducible refine Gst.now ?_ | with_reducible first | refine lwV_out ?_ | refine lwV_out0 ?_ | refine lkC_out ?_ | refine And.intro (by omega) ?_ | fail)
        have hlc := clC_len (ss.take i) qs I.len
        rw [hlt] at hlc
        have ho := I.outer
        cases hnl : r.nl with
        | true =>
          refine vawp_split2 [1, 2, 3, 4] [0, 5, 6, 7, 8, 9] (fun _ => True) mixed (by kernel_rfl) ?_ ?_
          · trivial
          simp only [pickO_cons, pickO_nil, List.getElem?_toArray, List.getElem?_cons_zero, List.getElem?_cons_succ]
          repeat (first | (apply vopsP_n; (case hd => rfl); (case hq => (intro h' K' hI' hk'; repeat (first | simp (maxSteps := 4000000) (disch := first | omega | assumption) only [↓reduceIte, go_sem, hI', g6, g7, g8, g3, e1, e3] | with_reducible refine Gst.now ?_ | with_reducible refine vawp_draw mixed (by kernel_rfl) ?_ | with_reducible first | refine lwV_out ?_ | refine lwV_out0 ?_ | refine lkC_out ?_ | refine And.intro (by omega) ?_ | fail); exact hk'))) | fail)
          simp only [vopsP_nil]
          try simp only [putV_s, putV_n]
          refine vopsT_2 0 5 (by kernel_rfl) rfl rfl (by first | trivial | exact Nat.le_of_ble_eq_true rfl) rfl (by first | trivial | exact Nat.le_of_ble_eq_true rfl) rfl ?_ ?_
          · repeat (first | (simp (maxSteps := 1000000) only [↓reduceIte, go_sem, g6, g7, g8, g3, e1, e3]) | (simp (maxSteps := 1000000) (disch := first | omega | assumption) only [BB, g6, g7, g8, g3, e1, e3]) | with_reducible refine Gst.now ?_ | with_reducible refine vawp_draw mixed (by kernel_rfl) ?_ | with_reducible first | refine lwV_out ?_ | refine lwV_out0 ?_ | refine lkC_out ?_ | refine And.intro (by omega) ?_ | fail)
            try simp only [putV_s, putV_n]
            refine vopsT_1 5 (by kernel_rfl) rfl (by first | trivial | exact Nat.le_of_ble_eq_true rfl) rfl ?_
            repeat (first | (simp (maxSteps := 1000000) only [↓reduceIte, go_sem]) | (simp (maxSteps := 1000000) (disch := first | omega | assumption) only [BB]) | with_reducible refine Gst.now ?_ | with_reducible refine vawp_draw mixed (by kernel_rfl) ?_ | with_reducible first | refine lwV_out ?_ | refine lwV_out0 ?_ | refine lkC_out ?_ | refine And.intro (by omega) ?_ | fail)
            refine call_ok (clone_o (xs := r.bs) rfl (fun _ => hrt.2 hnl) hrt.1 (fun _ => ?_) (fun hh => absurd hh (by decide)))
            have h12 : (r.nl = true ∧ h1 = h1) ∨ (r.nl = false ∧ h1 0 = none ∧ h1 = hset h1 0 (.cells 5 false (r.bs.map (iv .u8)))) := .inl ⟨hnl, rfl⟩
            have hww : rowW 0 r = .isl true 0 [] := if_pos hnl
            have ho2 := ho
            repeat (first | (simp (maxSteps := 1000000) only [↓reduceIte, go_sem, g6, g7, g8, g3, e1, e3]) | (simp (maxSteps := 1000000) (disch := first | omega | assumption) only [BB, g6, g7, g8, g3, e1, e3]) | with_reducible refine Gst.now ?_ | with_reducible refine vawp_draw mixed (by kernel_rfl) ?_ | with_reducible first | refine lwV_out ?_ | refine lwV_out0 ?_ | refine lkC_out ?_ | refine And.intro (by omega) ?_ | fail)
            try simp only [putV_s, putV_n]
            refine vopsT_1 6 (by kernel_rfl) rfl (by first | trivial | exact Nat.le_of_ble_eq_true rfl) rfl ?_
            repeat (first | (simp (maxSteps := 1000000) only [↓reduceIte, go_sem]) | (simp (maxSteps := 1000000) (disch := first | omega | assumption) only [BB]) | with_reducible refine Gst.now ?_ | with_reducible refine vawp_draw mixed (by kernel_rfl) ?_ | with_reducible first | refine lwV_out ?_ | refine lwV_out0 ?_ | refine lkC_out ?_ | refine And.intro (by omega) ?_ | fail)
            try simp only [putV_s, putV_n]
            refine vopsT_1 7 (by kernel_rfl) rfl (by first | trivial | exact Nat.le_of_ble_eq_true rfl) rfl ?_
            repeat (first | (simp (maxSteps := 1000000) only [↓reduceIte, go_sem]) | (simp (maxSteps := 1000000) (disch := first | omega | assumption) only [BB]) | with_reducible refine Gst.now ?_ | with_reducible refine vawp_draw mixed (by kernel_rfl) ?_ | with_reducible first | refine lwV_out ?_ | refine lwV_out0 ?_ | refine lkC_out ?_ | refine And.intro (by omega) ?_ | fail)
            refine vBuildS_isl' bs22 (by decide) ⟨[(.sc (.bool (th))), .isl true 0 []], rfl, rfl, ?_⟩
            repeat (first | (simp (maxSteps := 1000000) only [↓reduceIte, go_sem, g6, g7, g8, g3, e1, e3]) | (simp (maxSteps := 1000000) (disch := first | omega | assumption) only [BB, g6, g7, g8, g3, e1, e3]) | with_reducible refine Gst.now ?_ | with_reducible refine vawp_draw mixed (by kernel_rfl) ?_ | with_reducible first | refine lwV_out ?_ | refine lwV_out0 ?_ | refine lkC_out ?_ | refine And.intro (by omega) ?_ | fail)
            try simp only [putV_s, putV_n]
            refine vopsT_1 8 (by kernel_rfl) rfl (by first | trivial | exact Nat.le_of_ble_eq_true rfl) rfl ?_
            repeat (first | (simp (maxSteps := 1000000) only [↓reduceIte, go_sem]) | (simp (maxSteps := 1000000) (disch := first | omega | assumption) only [BB]) | with_reducible refine Gst.now ?_ | with_reducible refine vawp_draw mixed (by kernel_rfl) ?_ | with_reducible first | refine lwV_out ?_ | refine lwV_out0 ?_ | refine lkC_out ?_ | refine And.intro (by omega) ?_ | fail)
            apply vApp_own_isl ap22 (by simp only [go_sem])
            case hv => first | (simp []; done) | (simp []; omega) | rfl | assumption
            case hj => repeat (first | exact hset_at _ _ _ | assumption | refine (hset_ne _ _ (by first | omega | assumption)).trans ?_ | refine (hdel_ne _ (by first | omega | assumption)).trans ?_ | fail)
            case hl => first | (simp []; done) | (simp []; omega) | rfl | assumption
            case h1 => first | omega | (simp []; omega) | (simp []; done)
            case h2 => first | omega | (simp []; omega) | (simp []; done)
            intro j' hj'
            have I2 := I.app (s := ⟨th, r⟩) (q := 0) (h2 := h1) h12 hj'
            rw [← htk] at I2
            simp only [hww] at I2
            repeat (first | (simp (maxSteps := 1000000) only [↓reduceIte, go_sem, g6, g7, g8, g3, e1, e3]) | (simp (maxSteps := 1000000) (disch := first | omega | assumption) only [BB, g6, g7, g8, g3, e1, e3]) | with_reducible refine Gst.now ?_ | with_reducible refine vawp_draw mixed (by kernel_rfl) ?_ | with_reducible first | refine lwV_out ?_ | refine lwV_out0 ?_ | refine lkC_out ?_ | refine And.intro (by omega) ?_ | fail)
            try simp only [putV_s, putV_n]
            refine vopsT_1 9 (by kernel_rfl) rfl (by first | trivial | exact Nat.le_of_ble_eq_true rfl) rfl ?_
            repeat (first | (simp (maxSteps := 1000000) only [↓reduceIte, go_sem]) | (simp (maxSteps := 1000000) (disch := first | omega | assumption) only [BB]) | with_reducible refine Gst.now ?_ | with_reducible refine vawp_draw mixed (by kernel_rfl) ?_ | with_reducible first | refine lwV_out ?_ | refine lwV_out0 ?_ | refine lkC_out ?_ | refine And.intro (by omega) ?_ | fail)
            try simp only [putV_s, putV_n]
            try simp only [vopsT_0]
            repeat (first | (simp (maxSteps := 1000000) only [↓reduceIte, go_sem, g6, g7, g8, g3, e1, e3]) | (simp (maxSteps := 1000000) (disch := first | omega | assumption) only [BB, g6, g7, g8, g3, e1, e3]) | with_reducible refine Gst.now ?_ | with_reducible refine vawp_draw mixed (by kernel_rfl) ?_ | with_reducible first | refine lwV_out ?_ | refine lwV_out0 ?_ | refine lkC_out ?_ | refine And.intro (by omega) ?_ | fail)
            exact ⟨k - 1, by omega, i + 1, by omega, rfl, j', false, qs ++ [0], ⟨rfl, rfl⟩, I2⟩
          · repeat (first | (simp (maxSteps := 1000000) only [↓reduceIte, go_sem, g6, g7, g8, g3, e1, e3]) | (simp (maxSteps := 1000000) (disch := first | omega | assumption) only [BB, g6, g7, g8, g3, e1, e3]) | with_reducible refine Gst.now ?_ | with_reducible refine vawp_draw mixed (by kernel_rfl) ?_ | with_reducible first | refine lwV_out ?_ | refine lwV_out0 ?_ | refine lkC_out ?_ | refine And.intro (by omega) ?_ | fail)
            refine call_ok (clone_o (xs := r.bs) rfl (fun _ => hrt.2 hnl) hrt.1 (fun _ => ?_) (fun hh => absurd hh (by decide)))
            have h12 : (r.nl = true ∧ h1 = h1) ∨ (r.nl = false ∧ h1 0 = none ∧ h1 = hset h1 0 (.cells 5 false (r.bs.map (iv .u8)))) := .inl ⟨hnl, rfl⟩
            have hww : rowW 0 r = .isl true 0 [] := if_pos hnl
            have ho2 := ho
            repeat (first | (simp (maxSteps := 1000000) only [↓reduceIte, go_sem, g6, g7, g8, g3, e1, e3]) | (simp (maxSteps := 1000000) (disch := first | omega | assumption) only [BB, g6, g7, g8, g3, e1, e3]) | with_reducible refine Gst.now ?_ | with_reducible refine vawp_draw mixed (by kernel_rfl) ?_ | with_reducible first | refine lwV_out ?_ | refine lwV_out0 ?_ | refine lkC_out ?_ | refine And.intro (by omega) ?_ | fail)
            try simp only [putV_s, putV_n]
            refine vopsT_2 0 6 (by kernel_rfl) rfl rfl (by first | trivial | exact Nat.le_of_ble_eq_true rfl) rfl (by first | trivial | exact Nat.le_of_ble_eq_true rfl) rfl ?_ ?_
            · repeat (first | (simp (maxSteps := 1000000) only [↓reduceIte, go_sem, g6, g7, g8, g3, e1, e3]) | (simp (maxSteps := 1000000) (disch := first | omega | assumption) only [BB, g6, g7, g8, g3, e1, e3]) | with_reducible refine Gst.now ?_ | with_reducible refine vawp_draw mixed (by kernel_rfl) ?_ | with_reducible first | refine lwV_out ?_ | refine lwV_out0 ?_ | refine lkC_out ?_ | refine And.intro (by omega) ?_ | fail)
              try simp only [putV_s, putV_n]
              refine vopsT_1 6 (by kernel_rfl) rfl (by first | trivial | exact Nat.le_of_ble_eq_true rfl) rfl ?_
              repeat (first | (simp (maxSteps := 1000000) only [↓reduceIte, go_sem]) | (simp (maxSteps := 1000000) (disch := first | omega | assumption) only [BB]) | with_reducible refine Gst.now ?_ | with_reducible refine vawp_draw mixed (by kernel_rfl) ?_ | with_reducible first | refine lwV_out ?_ | refine lwV_out0 ?_ | refine lkC_out ?_ | refine And.intro (by omega) ?_ | fail)
              try simp only [putV_s, putV_n]
              refine vopsT_1 7 (by kernel_rfl) rfl (by first | trivial | exact Nat.le_of_ble_eq_true rfl) rfl ?_
              repeat (first | (simp (maxSteps := 1000000) only [↓reduceIte, go_sem]) | (simp (maxSteps := 1000000) (disch := first | omega | assumption) only [BB]) | with_reducible refine Gst.now ?_ | with_reducible refine vawp_draw mixed (by kernel_rfl) ?_ | with_reducible first | refine lwV_out ?_ | refine lwV_out0 ?_ | refine lkC_out ?_ | refine And.intro (by omega) ?_ | fail)
              refine vBuildS_isl' bs22 (by decide) ⟨[(.sc (.bool (th))), .isl true 0 []], rfl, rfl, ?_⟩
              repeat (first | (simp (maxSteps := 1000000) only [↓reduceIte, go_sem, g6, g7, g8, g3, e1, e3]) | (simp (maxSteps := 1000000) (disch := first | omega | assumption) only [BB, g6, g7, g8, g3, e1, e3]) | with_reducible refine Gst.now ?_ | with_reducible refine vawp_draw mixed (by kernel_rfl) ?_ | with_reducible first | refine lwV_out ?_ | refine lwV_out0 ?_ | refine lkC_out ?_ | refine And.intro (by omega) ?_ | fail)
              try simp only [putV_s, putV_n]
              refine vopsT_1 8 (by kernel_rfl) rfl (by first | trivial | exact Nat.le_of_ble_eq_true rfl) rfl ?_
              repeat (first | (simp (maxSteps := 1000000) only [↓reduceIte, go_sem]) | (simp (maxSteps := 1000000) (disch := first | omega | assumption) only [BB]) | with_reducible refine Gst.now ?_ | with_reducible refine vawp_draw mixed (by kernel_rfl) ?_ | with_reducible first | refine lwV_out ?_ | refine lwV_out0 ?_ | refine lkC_out ?_ | refine And.intro (by omega) ?_ | fail)
              apply vApp_own_isl ap22 (by simp only [go_sem])
              case hv => first | (simp []; done) | (simp []; omega) | rfl | assumption
              case hj => repeat (first | exact hset_at _ _ _ | assumption | refine (hset_ne _ _ (by first | omega | assumption)).trans ?_ | refine (hdel_ne _ (by first | omega | assumption)).trans ?_ | fail)
              case hl => first | (simp []; done) | (simp []; omega) | rfl | assumption
              case h1 => first | omega | (simp []; omega) | (simp []; done)
              case h2 => first | omega | (simp []; omega) | (simp []; done)
              intro j' hj'
              have I2 := I.app (s := ⟨th, r⟩) (q := 0) (h2 := h1) h12 hj'
              rw [← htk] at I2
              simp only [hww] at I2
              repeat (first | (simp (maxSteps := 1000000) only [↓reduceIte, go_sem, g6, g7, g8, g3, e1, e3]) | (simp (maxSteps := 1000000) (disch := first | omega | assumption) only [BB, g6, g7, g8, g3, e1, e3]) | with_reducible refine Gst.now ?_ | with_reducible refine vawp_draw mixed (by kernel_rfl) ?_ | with_reducible first | refine lwV_out ?_ | refine lwV_out0 ?_ | refine lkC_out ?_ | refine And.intro (by omega) ?_ | fail)
              try simp only [putV_s, putV_n]
              refine vopsT_1 9 (by kernel_rfl) rfl (by first | trivial | exact Nat.le_of_ble_eq_true rfl) rfl ?_
              repeat (first | (simp (maxSteps := 1000000) only [↓reduceIte, go_sem]) | (simp (maxSteps := 1000000) (disch := first | omega | assumption) only [BB]) | with_reducible refine Gst.now ?_ | with_reducible refine vawp_draw mixed (by kernel_rfl) ?_ | with_reducible first | refine lwV_out ?_ | refine lwV_out0 ?_ | refine lkC_out ?_ | refine And.intro (by omega) ?_ | fail)
              try simp only [putV_s, putV_n]
              try simp only [vopsT_0]
              repeat (first | (simp (maxSteps := 1000000) only [↓reduceIte, go_sem, g6, g7, g8, g3, e1, e3]) | (simp (maxSteps := 1000000) (disch := first | omega | assumption) only [BB, g6, g7, g8, g3, e1, e3]) | with_reducible refine Gst.now ?_ | with_reducible refine vawp_draw mixed (by kernel_rfl) ?_ | with_reducible first | refine lwV_out ?_ | refine lwV_out0 ?_ | refine lkC_out ?_ | refine And.intro (by omega) ?_ | fail)
              exact ⟨k - 1, by omega, i + 1, by omega, rfl, j', false, qs ++ [0], ⟨rfl, rfl⟩, I2⟩
            · repeat (first | (simp (maxSteps := 1000000) only [↓reduceIte, go_sem, g6, g7, g8, g3, e1, e3]) | (simp (maxSteps := 1000000) (disch := first | omega | assumption) only [BB, g6, g7, g8, g3, e1, e3]) | with_reducible refine Gst.now ?_ | with_reducible refine vawp_draw mixed (by kernel_rfl) ?_ | with_reducible first | refine lwV_out ?_ | refine lwV_out0 ?_ | refine lkC_out ?_ | refine And.intro (by omega) ?_ | fail)
              try simp only [putV_s, putV_n]
              refine vopsT_2 0 7 (by kernel_rfl) rfl rfl (by first | trivial | exact Nat.le_of_ble_eq_true rfl) rfl (by first | trivial | exact Nat.le_of_ble_eq_true rfl) rfl ?_ ?_
              · repeat (first | (simp (maxSteps := 1000000) only [↓reduceIte, go_sem, g6, g7, g8, g3, e1, e3]) | (simp (maxSteps := 1000000) (disch := first | omega | assumption) only [BB, g6, g7, g8, g3, e1, e3]) | with_reducible refine Gst.now ?_ | with_reducible refine vawp_draw mixed (by kernel_rfl) ?_ | with_reducible first | refine lwV_out ?_ | refine lwV_out0 ?_ | refine lkC_out ?_ | refine And.intro (by omega) ?_ | fail)
                try simp only [putV_s, putV_n]
                refine vopsT_1 7 (by kernel_rfl) rfl (by first | trivial | exact Nat.le_of_ble_eq_true rfl) rfl ?_
                repeat (first | (simp (maxSteps := 1000000) only [↓reduceIte, go_sem]) | (simp (maxSteps := 1000000) (disch := first | omega | assumption) only [BB]) | with_reducible refine Gst.now ?_ | with_reducible refine vawp_draw mixed (by kernel_rfl) ?_ | with_reducible first | refine lwV_out ?_ | refine lwV_out0 ?_ | refine lkC_out ?_ | refine And.intro (by omega) ?_ | fail)
                refine vBuildS_isl' bs22 (by decide) ⟨[(.sc (.bool (th))), .isl true 0 []], rfl, rfl, ?_⟩
                repeat (first | (simp (maxSteps := 1000000) only [↓reduceIte, go_sem, g6, g7, g8, g3, e1, e3]) | (simp (maxSteps := 1000000) (disch := first | omega | assumption) only [BB, g6, g7, g8, g3, e1, e3]) | with_reducible refine Gst.now ?_ | with_reducible refine vawp_draw mixed (by kernel_rfl) ?_ | with_reducible first | refine lwV_out ?_ | refine lwV_out0 ?_ | refine lkC_out ?_ | refine And.intro (by omega) ?_ | fail)
                try simp only [putV_s, putV_n]
                refine vopsT_1 8 (by kernel_rfl) rfl (by first | trivial | exact Nat.le_of_ble_eq_true rfl) rfl ?_
                repeat (first | (simp (maxSteps := 1000000) only [↓reduceIte, go_sem]) | (simp (maxSteps := 1000000) (disch := first | omega | assumption) only [BB]) | with_reducible refine Gst.now ?_ | with_reducible refine vawp_draw mixed (by kernel_rfl) ?_ | with_reducible first | refine lwV_out ?_ | refine lwV_out0 ?_ | refine lkC_out ?_ | refine And.intro (by omega) ?_ | fail)
                apply vApp_own_isl ap22 (by simp only [go_sem])
                case hv => first | (simp []; done) | (simp []; omega) | rfl | assumption
                case hj => repeat (first | exact hset_at _ _ _ | assumption | refine (hset_ne _ _ (by first | omega | assumption)).trans ?_ | refine (hdel_ne _ (by first | omega | assumption)).trans ?_ | fail)
                case hl => first | (simp []; done) | (simp []; omega) | rfl | assumption
                case h1 => first | omega | (simp []; omega) | (simp []; done)
                case h2 => first | omega | (simp []; omega) | (simp []; done)
                intro j' hj'
                have I2 := I.app (s := ⟨th, r⟩) (q := 0) (h2 := h1) h12 hj'
                rw [← htk] at I2
                simp only [hww] at I2
                repeat (first | (simp (maxSteps := 1000000) only [↓reduceIte, go_sem, g6, g7, g8, g3, e1, e3]) | (simp (maxSteps := 1000000) (disch := first | omega | assumption) only [BB, g6, g7, g8, g3, e1, e3]) | with_reducible refine Gst.now ?_ | with_reducible refine vawp_draw mixed (by kernel_rfl) ?_ | with_reducible first | refine lwV_out ?_ | refine lwV_out0 ?_ | refine lkC_out ?_ | refine And.intro (by omega) ?_ | fail)
                try simp only [putV_s, putV_n]
                refine vopsT_1 9 (by kernel_rfl) rfl (by first | trivial | exact Nat.le_of_ble_eq_true rfl) rfl ?_
                repeat (first | (simp (maxSteps := 1000000) only [↓reduceIte, go_sem]) | (simp (maxSteps := 1000000) (disch := first | omega | assumption) only [BB]) | with_reducible refine Gst.now ?_ | with_reducible refine vawp_draw mixed (by kernel_rfl) ?_ | with_reducible first | refine lwV_out ?_ | refine lwV_out0 ?_ | refine lkC_out ?_ | refine And.intro (by omega) ?_ | fail)
                try simp only [putV_s, putV_n]
                try simp only [vopsT_0]
                repeat (first | (simp (maxSteps := 1000000) only [↓reduceIte, go_sem, g6, g7, g8, g3, e1, e3]) | (simp (maxSteps := 1000000) (disch := first | omega | assumption) only [BB, g6, g7, g8, g3, e1, e3]) | with_reducible refine Gst.now ?_ | with_reducible refine vawp_draw mixed (by kernel_rfl) ?_ | with_reducible first | refine lwV_out ?_ | refine lwV_out0 ?_ | refine lkC_out ?_ | refine And.intro (by omega) ?_ | fail)
                exact ⟨k - 1, by omega, i + 1, by omega, rfl, j', false, qs ++ [0], ⟨rfl, rfl⟩, I2⟩
              · repeat (first | (simp (maxSteps := 1000000) only [↓reduceIte, go_sem, g6, g7, g8, g3, e1, e3]) | (simp (maxSteps := 1000000) (disch := first | omega | assumption) only [BB, g6, g7, g8, g3, e1, e3]) | with_reducible refine Gst.now ?_ | with_reducible refine vawp_draw mixed (by kernel_rfl) ?_ | with_reducible first | refine lwV_out ?_ | refine lwV_out0 ?_ | refine lkC_out ?_ | refine And.intro (by omega) ?_ | fail)
                refine vBuildS_isl' bs22 (by decide) ⟨[(.sc (.bool (th))), .isl true 0 []], rfl, rfl, ?_⟩
                repeat (first | (simp (maxSteps := 1000000) only [↓reduceIte, go_sem, g6, g7, g8, g3, e1, e3]) | (simp (maxSteps := 1000000) (disch := first | omega | assumption) only [BB, g6, g7, g8, g3, e1, e3]) | with_reducible refine Gst.now ?_ | with_reducible refine vawp_draw mixed (by kernel_rfl) ?_ | with_reducible first | refine lwV_out ?_ | refine lwV_out0 ?_ | refine lkC_out ?_ | refine And.intro (by omega) ?_ | fail)
                try simp only [putV_s, putV_n]
                refine vopsT_1 0 (by kernel_rfl) rfl (by first | trivial | exact Nat.le_of_ble_eq_true rfl) rfl ?_
                repeat (first | (simp (maxSteps := 1000000) only [↓reduceIte, go_sem]) | (simp (maxSteps := 1000000) (disch := first | omega | assumption) only [BB]) | with_reducible refine Gst.now ?_ | with_reducible refine vawp_draw mixed (by kernel_rfl) ?_ | with_reducible first | refine lwV_out ?_ | refine lwV_out0 ?_ | refine lkC_out ?_ | refine And.intro (by omega) ?_ | fail)
                repeat (first | (simp (maxSteps := 1000000) only [↓reduceIte, go_sem, g6, g7, g8, g3, e1, e3]) | (simp (maxSteps := 1000000) (disch := first | omega | assumption) only [BB, g6, g7, g8, g3, e1, e3]) | with_reducible refine Gst.now ?_ | with_reducible refine vawp_draw mixed (by kernel_rfl) ?_ | with_reducible first | refine lwV_out ?_ | refine lwV_out0 ?_ | refine lkC_out ?_ | refine And.intro (by omega) ?_ | fail)
                try simp only [putV_s, putV_n]
                refine vopsT_1 8 (by kernel_rfl) rfl (by first | trivial | exact Nat.le_of_ble_eq_true rfl) rfl ?_
                repeat (first | (simp (maxSteps := 1000000) only [↓reduceIte, go_sem]) | (simp (maxSteps := 1000000) (disch := first | omega | assumption) only [BB]) | with_reducible refine Gst.now ?_ | with_reducible refine vawp_draw mixed (by kernel_rfl) ?_ | with_reducible first | refine lwV_out ?_ | refine lwV_out0 ?_ | refine lkC_out ?_ | refine And.intro (by omega) ?_ | fail)
                apply vApp_own_isl ap22 (by simp only [go_sem])
                case hv => first | (simp []; done) | (simp []; omega) | rfl | assumption
                case hj => repeat (first | exact hset_at _ _ _ | assumption | refine (hset_ne _ _ (by first | omega | assumption)).trans ?_ | refine (hdel_ne _ (by first | omega | assumption)).trans ?_ | fail)
                case hl => first | (simp []; done) | (simp []; omega) | rfl | assumption
                case h1 => first | omega | (simp []; omega) | (simp []; done)
                case h2 => first | omega | (simp []; omega) | (simp []; done)
                intro j' hj'
                have I2 := I.app (s := ⟨th, r⟩) (q := 0) (h2 := h1) h12 hj'
                rw [← htk] at I2
                simp only [hww] at I2
                repeat (first | (simp (maxSteps := 1000000) only [↓reduceIte, go_sem, g6, g7, g8, g3, e1, e3]) | (simp (maxSteps := 1000000) (disch := first | omega | assumption) only [BB, g6, g7, g8, g3, e1, e3]) | with_reducible refine Gst.now ?_ | with_reducible refine vawp_draw mixed (by kernel_rfl) ?_ | with_reducible first | refine lwV_out ?_ | refine lwV_out0 ?_ | refine lkC_out ?_ | refine And.intro (by omega) ?_ | fail)
                try simp only [putV_s, putV_n]
                refine vopsT_1 9 (by kernel_rfl) rfl (by first | trivial | exact Nat.le_of_ble_eq_true rfl) rfl ?_
                repeat (first | (simp (maxSteps := 1000000) only [↓reduceIte, go_sem]) | (simp (maxSteps := 1000000) (disch := first | omega | assumption) only [BB]) | with_reducible refine Gst.now ?_ | with_reducible refine vawp_draw mixed (by kernel_rfl) ?_ | with_reducible first | refine lwV_out ?_ | refine lwV_out0 ?_ | refine lkC_out ?_ | refine And.intro (by omega) ?_ | fail)
                try simp only [putV_s, putV_n]
                try simp only [vopsT_0]
                repeat (first | (simp (maxSteps := 1000000) only [↓reduceIte, go_sem, g6, g7, g8, g3, e1, e3]) | (simp (maxSteps := 1000000) (disch := first | omega | assumption) only [BB, g6, g7, g8, g3, e1, e3]) | with_reducible refine Gst.now ?_ | with_reducible refine vawp_draw mixed (by kernel_rfl) ?_ | with_reducible first | refine lwV_out ?_ | refine lwV_out0 ?_ | refine lkC_out ?_ | refine And.intro (by omega) ?_ | fail)
                exact ⟨k - 1, by omega, i + 1, by omega, rfl, j', false, qs ++ [0], ⟨rfl, rfl⟩, I2⟩
        | false =>
          refine vawp_split2 [1, 2, 3, 4] [0, 5, 6, 7, 8, 9] (fun _ => True) mixed (by kernel_rfl) ?_ ?_
          · trivial
          simp only [pickO_cons, pickO_nil, List.getElem?_toArray, List.getElem?_cons_zero, List.getElem?_cons_succ]
          repeat (first | (apply vopsP_n; (case hd => rfl); (case hq => (intro h' K' hI' hk'; repeat (first | simp (maxSteps := 4000000) (disch := first | omega | assumption) only [↓reduceIte, go_sem, hI', g6, g7, g8, g3, e1, e3] | with_reducible refine Gst.now ?_ | with_reducible refine vawp_draw mixed (by kernel_rfl) ?_ | with_reducible first | refine lwV_out ?_ | refine lwV_out0 ?_ | refine lkC_out ?_ | refine And.intro (by omega) ?_ | fail); exact hk'))) | fail)
          simp only [vopsP_nil]
          try simp only [putV_s, putV_n]
          refine vopsT_2 0 5 (by kernel_rfl) rfl rfl (by first | trivial | exact Nat.le_of_ble_eq_true rfl) rfl (by first | trivial | exact Nat.le_of_ble_eq_true rfl) rfl ?_ ?_
          · repeat (first | (simp (maxSteps := 1000000) only [↓reduceIte, go_sem, g6, g7, g8, g3, e1, e3]) | (simp (maxSteps := 1000000) (disch := first | omega | assumption) only [BB, g6, g7, g8, g3, e1, e3]) | with_reducible refine Gst.now ?_ | with_reducible refine vawp_draw mixed (by kernel_rfl) ?_ | with_reducible first | refine lwV_out ?_ | refine lwV_out0 ?_ | refine lkC_out ?_ | refine And.intro (by omega) ?_ | fail)
            try simp only [putV_s, putV_n]
            refine vopsT_1 5 (by kernel_rfl) rfl (by first | trivial | exact Nat.le_of_ble_eq_true rfl) rfl ?_
            repeat (first | (simp (maxSteps := 1000000) only [↓reduceIte, go_sem]) | (simp (maxSteps := 1000000) (disch := first | omega | assumption) only [BB]) | with_reducible refine Gst.now ?_ | with_reducible refine vawp_draw mixed (by kernel_rfl) ?_ | with_reducible first | refine lwV_out ?_ | refine lwV_out0 ?_ | refine lkC_out ?_ | refine And.intro (by omega) ?_ | fail)
            refine call_ok (clone_o (xs := r.bs) rfl (fun hh => absurd hh (by decide)) hrt.1 (fun hh => absurd hh (by decide)) (fun _ q hq0 => ?_))
            have h12 : (r.nl = true ∧ hset h1 q (.cells 5 false (r.bs.map (iv .u8))) = h1) ∨ (r.nl = false ∧ h1 q = none ∧ hset h1 q (.cells 5 false (r.bs.map (iv .u8))) = hset h1 q (.cells 5 false (r.bs.map (iv .u8)))) := .inr ⟨hnl, hq0, rfl⟩
            have hww : rowW q r = .own q 0 r.bs.length := if_neg (by rw [hnl]; decide)
            have hjq : j ≠ q := fun hh => by rw [hh, hq0] at ho; cases ho
            have hcm : hdel (hset h1 q (.cells 5 false (r.bs.map (iv .u8)))) j = hset (hdel h1 j) q (.cells 5 false (r.bs.map (iv .u8))) := hdel_hset_ne hjq
            have ho2 : hset h1 q (.cells 5 false (r.bs.map (iv .u8))) j = some (.cells 27 nl2 (clC (ss.take i) qs)) := (hset_ne _ _ hjq).trans ho
            repeat (first | (simp (maxSteps := 1000000) only [↓reduceIte, go_sem, g6, g7, g8, g3, e1, e3]) | (simp (maxSteps := 1000000) (disch := first | omega | assumption) only [BB, g6, g7, g8, g3, e1, e3]) | with_reducible refine Gst.now ?_ | with_reducible refine vawp_draw mixed (by kernel_rfl) ?_ | with_reducible first | refine lwV_out ?_ | refine lwV_out0 ?_ | refine lkC_out ?_ | refine And.intro (by omega) ?_ | fail)
            try simp only [putV_s, putV_n]
            refine vopsT_1 6 (by kernel_rfl) rfl (by first | trivial | exact Nat.le_of_ble_eq_true rfl) rfl ?_
            repeat (first | (simp (maxSteps := 1000000) only [↓reduceIte, go_sem]) | (simp (maxSteps := 1000000) (disch := first | omega | assumption) only [BB]) | with_reducible refine Gst.now ?_ | with_reducible refine vawp_draw mixed (by kernel_rfl) ?_ | with_reducible first | refine lwV_out ?_ | refine lwV_out0 ?_ | refine lkC_out ?_ | refine And.intro (by omega) ?_ | fail)
            try simp only [putV_s, putV_n]
            refine vopsT_1 7 (by kernel_rfl) rfl (by first | trivial | exact Nat.le_of_ble_eq_true rfl) rfl ?_
            repeat (first | (simp (maxSteps := 1000000) only [↓reduceIte, go_sem]) | (simp (maxSteps := 1000000) (disch := first | omega | assumption) only [BB]) | with_reducible refine Gst.now ?_ | with_reducible refine vawp_draw mixed (by kernel_rfl) ?_ | with_reducible first | refine lwV_out ?_ | refine lwV_out0 ?_ | refine lkC_out ?_ | refine And.intro (by omega) ?_ | fail)
            refine vBuildS_isl' bs22 (by decide) ⟨[(.sc (.bool (th))), .own q 0 r.bs.length], rfl, rfl, ?_⟩
            repeat (first | (simp (maxSteps := 1000000) only [↓reduceIte, go_sem, g6, g7, g8, g3, e1, e3]) | (simp (maxSteps := 1000000) (disch := first | omega | assumption) only [BB, g6, g7, g8, g3, e1, e3]) | with_reducible refine Gst.now ?_ | with_reducible refine vawp_draw mixed (by kernel_rfl) ?_ | with_reducible first | refine lwV_out ?_ | refine lwV_out0 ?_ | refine lkC_out ?_ | refine And.intro (by omega) ?_ | fail)
            try simp only [putV_s, putV_n]
            refine vopsT_1 8 (by kernel_rfl) rfl (by first | trivial | exact Nat.le_of_ble_eq_true rfl) rfl ?_
            repeat (first | (simp (maxSteps := 1000000) only [↓reduceIte, go_sem]) | (simp (maxSteps := 1000000) (disch := first | omega | assumption) only [BB]) | with_reducible refine Gst.now ?_ | with_reducible refine vawp_draw mixed (by kernel_rfl) ?_ | with_reducible first | refine lwV_out ?_ | refine lwV_out0 ?_ | refine lkC_out ?_ | refine And.intro (by omega) ?_ | fail)
            apply vApp_own_isl ap22 (by simp only [go_sem])
            case hv => first | (simp []; done) | (simp []; omega) | rfl | assumption
            case hj => repeat (first | exact hset_at _ _ _ | assumption | refine (hset_ne _ _ (by first | omega | assumption)).trans ?_ | refine (hdel_ne _ (by first | omega | assumption)).trans ?_ | fail)
            case hl => first | (simp []; done) | (simp []; omega) | rfl | assumption
            case h1 => first | omega | (simp []; omega) | (simp []; done)
            case h2 => first | omega | (simp []; omega) | (simp []; done)
            intro j' hj'
            have I2 := I.app (s := ⟨th, r⟩) (q := q) (h2 := (hset h1 q (.cells 5 false (r.bs.map (iv .u8))))) h12 hj'
            rw [hcm] at I2
            rw [← htk] at I2
            simp only [hww] at I2
            repeat (first | (simp (maxSteps := 1000000) only [↓reduceIte, go_sem, g6, g7, g8, g3, e1, e3]) | (simp (maxSteps := 1000000) (disch := first | omega | assumption) only [BB, g6, g7, g8, g3, e1, e3]) | with_reducible refine Gst.now ?_ | with_reducible refine vawp_draw mixed (by kernel_rfl) ?_ | with_reducible first | refine lwV_out ?_ | refine lwV_out0 ?_ | refine lkC_out ?_ | refine And.intro (by omega) ?_ | fail)
            try simp only [putV_s, putV_n]
            refine vopsT_1 9 (by kernel_rfl) rfl (by first | trivial | exact Nat.le_of_ble_eq_true rfl) rfl ?_
            repeat (first | (simp (maxSteps := 1000000) only [↓reduceIte, go_sem]) | (simp (maxSteps := 1000000) (disch := first | omega | assumption) only [BB]) | with_reducible refine Gst.now ?_ | with_reducible refine vawp_draw mixed (by kernel_rfl) ?_ | with_reducible first | refine lwV_out ?_ | refine lwV_out0 ?_ | refine lkC_out ?_ | refine And.intro (by omega) ?_ | fail)
            try simp only [putV_s, putV_n]
            try simp only [vopsT_0]
            repeat (first | (simp (maxSteps := 1000000) only [↓reduceIte, go_sem, g6, g7, g8, g3, e1, e3]) | (simp (maxSteps := 1000000) (disch := first | omega | assumption) only [BB, g6, g7, g8, g3, e1, e3]) | with_reducible refine Gst.now ?_ | with_reducible refine vawp_draw mixed (by kernel_rfl) ?_ | with_reducible first | refine lwV_out ?_ | refine lwV_out0 ?_ | refine lkC_out ?_ | refine And.intro (by omega) ?_ | fail)
            exact ⟨k - 1, by omega, i + 1, by omega, rfl, j', false, qs ++ [q], ⟨rfl, rfl⟩, I2⟩
          · repeat (first | (simp (maxSteps := 1000000) only [↓reduceIte, go_sem, g6, g7, g8, g3, e1, e3]) | (simp (maxSteps := 1000000) (disch := first | omega | assumption) only [BB, g6, g7, g8, g3, e1, e3]) | with_reducible refine Gst.now ?_ | with_reducible refine vawp_draw mixed (by kernel_rfl) ?_ | with_reducible first | refine lwV_out ?_ | refine lwV_out0 ?_ | refine lkC_out ?_ | refine And.intro (by omega) ?_ | fail)
            refine call_ok (clone_o (xs := r.bs) rfl (fun hh => absurd hh (by decide)) hrt.1 (fun hh => absurd hh (by decide)) (fun _ q hq0 => ?_))
            have h12 : (r.nl = true ∧ hset h1 q (.cells 5 false (r.bs.map (iv .u8))) = h1) ∨ (r.nl = false ∧ h1 q = none ∧ hset h1 q (.cells 5 false (r.bs.map (iv .u8))) = hset h1 q (.cells 5 false (r.bs.map (iv .u8)))) := .inr ⟨hnl, hq0, rfl⟩
            have hww : rowW q r = .own q 0 r.bs.length := if_neg (by rw [hnl]; decide)
            have hjq : j ≠ q := fun hh => by rw [hh, hq0] at ho; cases ho
            have hcm : hdel (hset h1 q (.cells 5 false (r.bs.map (iv .u8)))) j = hset (hdel h1 j) q (.cells 5 false (r.bs.map (iv .u8))) := hdel_hset_ne hjq
            have ho2 : hset h1 q (.cells 5 false (r.bs.map (iv .u8))) j = some (.cells 27 nl2 (clC (ss.take i) qs)) := (hset_ne _ _ hjq).trans ho
            repeat (first | (simp (maxSteps := 1000000) only [↓reduceIte, go_sem, g6, g7, g8, g3, e1, e3]) | (simp (maxSteps := 1000000) (disch := first | omega | assumption) only [BB, g6, g7, g8, g3, e1, e3]) | with_reducible refine Gst.now ?_ | with_reducible refine vawp_draw mixed (by kernel_rfl) ?_ | with_reducible first | refine lwV_out ?_ | refine lwV_out0 ?_ | refine lkC_out ?_ | refine And.intro (by omega) ?_ | fail)
            try simp only [putV_s, putV_n]
            refine vopsT_2 0 6 (by kernel_rfl) rfl rfl (by first | trivial | exact Nat.le_of_ble_eq_true rfl) rfl (by first | trivial | exact Nat.le_of_ble_eq_true rfl) rfl ?_ ?_
            · repeat (first | (simp (maxSteps := 1000000) only [↓reduceIte, go_sem, g6, g7, g8, g3, e1, e3]) | (simp (maxSteps := 1000000) (disch := first | omega | assumption) only [BB, g6, g7, g8, g3, e1, e3]) | with_reducible refine Gst.now ?_ | with_reducible refine vawp_draw mixed (by kernel_rfl) ?_ | with_reducible first | refine lwV_out ?_ | refine lwV_out0 ?_ | refine lkC_out ?_ | refine And.intro (by omega) ?_ | fail)
              try simp only [putV_s, putV_n]
              refine vopsT_1 6 (by kernel_rfl) rfl (by first | trivial | exact Nat.le_of_ble_eq_true rfl) rfl ?_
              repeat (first | (simp (maxSteps := 1000000) only [↓reduceIte, go_sem]) | (simp (maxSteps := 1000000) (disch := first | omega | assumption) only [BB]) | with_reducible refine Gst.now ?_ | with_reducible refine vawp_draw mixed (by kernel_rfl) ?_ | with_reducible first | refine lwV_out ?_ | refine lwV_out0 ?_ | refine lkC_out ?_ | refine And.intro (by omega) ?_ | fail)
              try simp only [putV_s, putV_n]
              refine vopsT_1 7 (by kernel_rfl) rfl (by first | trivial | exact Nat.le_of_ble_eq_true rfl) rfl ?_
              repeat (first | (simp (maxSteps := 1000000) only [↓reduceIte, go_sem]) | (simp (maxSteps := 1000000) (disch := first | omega | assumption) only [BB]) | with_reducible refine Gst.now ?_ | with_reducible refine vawp_draw mixed (by kernel_rfl) ?_ | with_reducible first | refine lwV_out ?_ | refine lwV_out0 ?_ | refine lkC_out ?_ | refine And.intro (by omega) ?_ | fail)
              refine vBuildS_isl' bs22 (by decide) ⟨[(.sc (.bool (th))), .own q 0 r.bs.length], rfl, rfl, ?_⟩
              repeat (first | (simp (maxSteps := 1000000) only [↓reduceIte, go_sem, g6, g7, g8, g3, e1, e3]) | (simp (maxSteps := 1000000) (disch := first | omega | assumption) only [BB, g6, g7, g8, g3, e1, e3]) | with_reducible refine Gst.now ?_ | with_reducible refine vawp_draw mixed (by kernel_rfl) ?_ | with_reducible first | refine lwV_out ?_ | refine lwV_out0 ?_ | refine lkC_out ?_ | refine And.intro (by omega) ?_ | fail)
              try simp only [putV_s, putV_n]
              refine vopsT_1 8 (by kernel_rfl) rfl (by first | trivial | exact Nat.le_of_ble_eq_true rfl) rfl ?_
              repeat (first | (simp (maxSteps := 1000000) only [↓reduceIte, go_sem]) | (simp (maxSteps := 1000000) (disch := first | omega | assumption) only [BB]) | with_reducible refine Gst.now ?_ | with_reducible refine vawp_draw mixed (by kernel_rfl) ?_ | with_reducible first | refine lwV_out ?_ | refine lwV_out0 ?_ | refine lkC_out ?_ | refine And.intro (by omega) ?_ | fail)
              apply vApp_own_isl ap22 (by simp only [go_sem])
              case hv => first | (simp []; done) | (simp []; omega) | rfl | assumption
              case hj => repeat (first | exact hset_at _ _ _ | assumption | refine (hset_ne _ _ (by first | omega | assumption)).trans ?_ | refine (hdel_ne _ (by first | omega | assumption)).trans ?_ | fail)
              case hl => first | (simp []; done) | (simp []; omega) | rfl | assumption
              case h1 => first | omega | (simp []; omega) | (simp []; done)
              case h2 => first | omega | (simp []; omega) | (simp []; done)
              intro j' hj'
              have I2 := I.app (s := ⟨th, r⟩) (q := q) (h2 := (hset h1 q (.cells 5 false (r.bs.map (iv .u8))))) h12 hj'
              rw [hcm] at I2
              rw [← htk] at I2
              simp only [hww] at I2
              repeat (first | (simp (maxSteps := 1000000) only [↓reduceIte, go_sem, g6, g7, g8, g3, e1, e3]) | (simp (maxSteps := 1000000) (disch := first | omega | assumption) only [BB, g6, g7, g8, g3, e1, e3]) | with_reducible refine Gst.now ?_ | with_reducible refine vawp_draw mixed (by kernel_rfl) ?_ | with_reducible first | refine lwV_out ?_ | refine lwV_out0 ?_ | refine lkC_out ?_ | refine And.intro (by omega) ?_ | fail)
              try simp only [putV_s, putV_n]
              refine vopsT_1 9 (by kernel_rfl) rfl (by first | trivial | exact Nat.le_of_ble_eq_true rfl) rfl ?_
              repeat (first | (simp (maxSteps := 1000000) only [↓reduceIte, go_sem]) | (simp (maxSteps := 1000000) (disch := first | omega | assumption) only [BB]) | with_reducible refine Gst.now ?_ | with_reducible refine vawp_draw mixed (by kernel_rfl) ?_ | with_reducible first | refine lwV_out ?_ | refine lwV_out0 ?_ | refine lkC_out ?_ | refine And.intro (by omega) ?_ | fail)
              try simp only [putV_s, putV_n]
              try simp only [vopsT_0]
              repeat (first | (simp (maxSteps := 1000000) only [↓reduceIte, go_sem, g6, g7, g8, g3, e1, e3]) | (simp (maxSteps := 1000000) (disch := first | omega | assumption) only [BB, g6, g7, g8, g3, e1, e3]) | with_reducible refine Gst.now ?_ | with_reducible refine vawp_draw mixed (by kernel_rfl) ?_ | with_reducible first | refine lwV_out ?_ | refine lwV_out0 ?_ | refine lkC_out ?_ | refine And.intro (by omega) ?_ | fail)
              exact ⟨k - 1, by omega, i + 1, by omega, rfl, j', false, qs ++ [q], ⟨rfl, rfl⟩, I2⟩
            · repeat (first | (simp (maxSteps := 1000000) only [↓reduceIte, go_sem, g6, g7, g8, g3, e1, e3]) | (simp (maxSteps := 1000000) (disch := first | omega | assumption) only [BB, g6, g7, g8, g3, e1, e3]) | with_reducible refine Gst.now ?_ | with_reducible refine vawp_draw mixed (by kernel_rfl) ?_ | with_reducible first | refine lwV_out ?_ | refine lwV_out0 ?_ | refine lkC_out ?_ | refine And.intro (by omega) ?_ | fail)
              try simp only [putV_s, putV_n]
              refine vopsT_2 0 7 (by kernel_rfl) rfl rfl (by first | trivial | exact Nat.le_of_ble_eq_true rfl) rfl (by first | trivial | exact Nat.le_of_ble_eq_true rfl) rfl ?_ ?_
              · repeat (first | (simp (maxSteps := 1000000) only [↓reduceIte, go_sem, g6, g7, g8, g3, e1, e3]) | (simp (maxSteps := 1000000) (disch := first | omega | assumption) only [BB, g6, g7, g8, g3, e1, e3]) | with_reducible refine Gst.now ?_ | with_reducible refine vawp_draw mixed (by kernel_rfl) ?_ | with_reducible first | refine lwV_out ?_ | refine lwV_out0 ?_ | refine lkC_out ?_ | refine And.intro (by omega) ?_ | fail)
                try simp only [putV_s, putV_n]
                refine vopsT_1 7 (by kernel_rfl) rfl (by first | trivial | exact Nat.le_of_ble_eq_true rfl) rfl ?_
                repeat (first | (simp (maxSteps := 1000000) only [↓reduceIte, go_sem]) | (simp (maxSteps := 1000000) (disch := first | omega | assumption) only [BB]) | with_reducible refine Gst.now ?_ | with_reducible refine vawp_draw mixed (by kernel_rfl) ?_ | with_reducible first | refine lwV_out ?_ | refine lwV_out0 ?_ | refine lkC_out ?_ | refine And.intro (by omega) ?_ | fail)
                refine vBuildS_isl' bs22 (by decide) ⟨[(.sc (.bool (th))), .own q 0 r.bs.length], rfl, rfl, ?_⟩
                repeat (first | (simp (maxSteps := 1000000) only [↓reduceIte, go_sem, g6, g7, g8, g3, e1, e3]) | (simp (maxSteps := 1000000) (disch := first | omega | assumption) only [BB, g6, g7, g8, g3, e1, e3]) | with_reducible refine Gst.now ?_ | with_reducible refine vawp_draw mixed (by kernel_rfl) ?_ | with_reducible first | refine lwV_out ?_ | refine lwV_out0 ?_ | refine lkC_out ?_ | refine And.intro (by omega) ?_ | fail)
                try simp only [putV_s, putV_n]
                refine vopsT_1 8 (by kernel_rfl) rfl (by first | trivial | exact Nat.le_of_ble_eq_true rfl) rfl ?_
                repeat (first | (simp (maxSteps := 1000000) only [↓reduceIte, go_sem]) | (simp (maxSteps := 1000000) (disch := first | omega | assumption) only [BB]) | with_reducible refine Gst.now ?_ | with_reducible refine vawp_draw mixed (by kernel_rfl) ?_ | with_reducible first | refine lwV_out ?_ | refine lwV_out0 ?_ | refine lkC_out ?_ | refine And.intro (by omega) ?_ | fail)
                apply vApp_own_isl ap22 (by simp only [go_sem])
                case hv => first | (simp []; done) | (simp []; omega) | rfl | assumption
                case hj => repeat (first | exact hset_at _ _ _ | assumption | refine (hset_ne _ _ (by first | omega | assumption)).trans ?_ | refine (hdel_ne _ (by first | omega | assumption)).trans ?_ | fail)
                case hl => first | (simp []; done) | (simp []; omega) | rfl | assumption
                case h1 => first | omega | (simp []; omega) | (simp []; done)
                case h2 => first | omega | (simp []; omega) | (simp []; done)
                intro j' hj'
                have I2 := I.app (s := ⟨th, r⟩) (q := q) (h2 := (hset h1 q (.cells 5 false (r.bs.map (iv .u8))))) h12 hj'
                rw [hcm] at I2
                rw [← htk] at I2
                simp only [hww] at I2
                repeat (first | (simp (maxSteps := 1000000) only [↓reduceIte, go_sem, g6, g7, g8, g3, e1, e3]) | (simp (maxSteps := 1000000) (disch := first | omega | assumption) only [BB, g6, g7, g8, g3, e1, e3]) | with_reducible refine Gst.now ?_ | with_reducible refine vawp_draw mixed (by kernel_rfl) ?_ | with_reducible first | refine lwV_out ?_ | refine lwV_out0 ?_ | refine lkC_out ?_ | refine And.intro (by omega) ?_ | fail)
                try simp only [putV_s, putV_n]
                refine vopsT_1 9 (by kernel_rfl) rfl (by first | trivial | exact Nat.le_of_ble_eq_true rfl) rfl ?_
                repeat (first | (simp (maxSteps := 1000000) only [↓reduceIte, go_sem]) | (simp (maxSteps := 1000000) (disch := first | omega | assumption) only [BB]) | with_reducible refine Gst.now ?_ | with_reducible refine vawp_draw mixed (by kernel_rfl) ?_ | with_reducible first | refine lwV_out ?_ | refine lwV_out0 ?_ | refine lkC_out ?_ | refine And.intro (by omega) ?_ | fail)
                try simp only [putV_s, putV_n]
                try simp only [vopsT_0]
                repeat (first | (simp (maxSteps := 1000000) only [↓reduceIte, go_sem, g6, g7, g8, g3, e1, e3]) | (simp (maxSteps := 1000000) (disch := first | omega | assumption) only [BB, g6, g7, g8, g3, e1, e3]) | with_reducible refine Gst.now ?_ | with_reducible refine vawp_draw mixed (by kernel_rfl) ?_ | with_reducible first | refine lwV_out ?_ | refine lwV_out0 ?_ | refine lkC_out ?_ | refine And.intro (by omega) ?_ | fail)
                exact ⟨k - 1, by omega, i + 1, by omega, rfl, j', false, qs ++ [q], ⟨rfl, rfl⟩, I2⟩
              · repeat (first | (simp (maxSteps := 1000000) only [↓reduceIte, go_sem, g6, g7, g8, g3, e1, e3]) | (simp (maxSteps := 1000000) (disch := first | omega | assumption) only [BB, g6, g7, g8, g3, e1, e3]) | with_reducible refine Gst.now ?_ | with_reducible refine vawp_draw mixed (by kernel_rfl) ?_ | with_reducible first | refine lwV_out ?_ | refine lwV_out0 ?_ | refine lkC_out ?_ | refine And.intro (by omega) ?_ | fail)
                refine vBuildS_isl' bs22 (by decide) ⟨[(.sc (.bool (th))), .own q 0 r.bs.length], rfl, rfl, ?_⟩
                repeat (first | (simp (maxSteps := 1000000) only [↓reduceIte, go_sem, g6, g7, g8, g3, e1, e3]) | (simp (maxSteps := 1000000) (disch := first | omega | assumption) only [BB, g6, g7, g8, g3, e1, e3]) | with_reducible refine Gst.now ?_ | with_reducible refine vawp_draw mixed (by kernel_rfl) ?_ | with_reducible first | refine lwV_out ?_ | refine lwV_out0 ?_ | refine lkC_out ?_ | refine And.intro (by omega) ?_ | fail)
                try simp only [putV_s, putV_n]
                refine vopsT_1 0 (by kernel_rfl) rfl (by first | trivial | exact Nat.le_of_ble_eq_true rfl) rfl ?_
                repeat (first | (simp (maxSteps := 1000000) only [↓reduceIte, go_sem]) | (simp (maxSteps := 1000000) (disch := first | omega | assumption) only [BB]) | with_reducible refine Gst.now ?_ | with_reducible refine vawp_draw mixed (by kernel_rfl) ?_ | with_reducible first | refine lwV_out ?_ | refine lwV_out0 ?_ | refine lkC_out ?_ | refine And.intro (by omega) ?_ | fail)
                repeat (first | (simp (maxSteps := 1000000) only [↓reduceIte, go_sem, g6, g7, g8, g3, e1, e3]) | (simp (maxSteps := 1000000) (disch := first | omega | assumption) only [BB, g6, g7, g8, g3, e1, e3]) | with_reducible refine Gst.now ?_ | with_reducible refine vawp_draw mixed (by kernel_rfl) ?_ | with_reducible first | refine lwV_out ?_ | refine lwV_out0 ?_ | refine lkC_out ?_ | refine And.intro (by omega) ?_ | fail)
                try simp only [putV_s, putV_n]
                refine vopsT_1 8 (by kernel_rfl) rfl (by first | trivial | exact Nat.le_of_ble_eq_true rfl) rfl ?_
                repeat (first | (simp (maxSteps := 1000000) only [↓reduceIte, go_sem]) | (simp (maxSteps := 1000000) (disch := first | omega | assumption) only [BB]) | with_reducible refine Gst.now ?_ | with_reducible refine vawp_draw mixed (by kernel_rfl) ?_ | with_reducible first | refine lwV_out ?_ | refine lwV_out0 ?_ | refine lkC_out ?_ | refine And.intro (by omega) ?_ | fail)
                apply vApp_own_isl ap22 (by simp only [go_sem])
                case hv => first | (simp []; done) | (simp []; omega) | rfl | assumption
                case hj => repeat (first | exact hset_at _ _ _ | assumption | refine (hset_ne _ _ (by first | omega | assumption)).trans ?_ | refine (hdel_ne _ (by first | omega | assumption)).trans ?_ | fail)
                case hl => first | (simp []; done) | (simp []; omega) | rfl | assumption
                case h1 => first | omega | (simp []; omega) | (simp []; done)
                case h2 => first | omega | (simp []; omega) | (simp []; done)
                intro j' hj'
                have I2 := I.app (s := ⟨th, r⟩) (q := q) (h2 := (hset h1 q (.cells 5 false (r.bs.map (iv .u8))))) h12 hj'
                rw [hcm] at I2
                rw [← htk] at I2
                simp only [hww] at I2
                repeat (first | (simp (maxSteps := 1000000) only [↓reduceIte, go_sem, g6, g7, g8, g3, e1, e3]) | (simp (maxSteps := 1000000) (disch := first | omega | assumption) only [BB, g6, g7, g8, g3, e1, e3]) | with_reducible refine Gst.now ?_ | with_reducible refine vawp_draw mixed (by kernel_rfl) ?_ | with_reducible first | refine lwV_out ?_ | refine lwV_out0 ?_ | refine lkC_out ?_ | refine And.intro (by omega) ?_ | fail)
                try simp only [putV_s, putV_n]
                refine vopsT_1 9 (by kernel_rfl) rfl (by first | trivial | exact Nat.le_of_ble_eq_true rfl) rfl ?_
                repeat (first | (simp (maxSteps := 1000000) only [↓reduceIte, go_sem]) | (simp (maxSteps := 1000000) (disch := first | omega | assumption) only [BB]) | with_reducible refine Gst.now ?_ | with_reducible refine vawp_draw mixed (by kernel_rfl) ?_ | with_reducible first | refine lwV_out ?_ | refine lwV_out0 ?_ | refine lkC_out ?_ | refine And.intro (by omega) ?_ | fail)
                try simp only [putV_s, putV_n]
                try simp only [vopsT_0]
                repeat (first | (simp (maxSteps := 1000000) only [↓reduceIte, go_sem, g6, g7, g8, g3, e1, e3]) | (simp (maxSteps := 1000000) (disch := first | omega | assumption) only [BB, g6, g7, g8, g3, e1, e3]) | with_reducible refine Gst.now ?_ | with_reducible refine vawp_draw mixed (by kernel_rfl) ?_ | with_reducible first | refine lwV_out ?_ | refine lwV_out0 ?_ | refine lkC_out ?_ | refine And.intro (by omega) ?_ | fail)
                exact ⟨k - 1, by omega, i + 1, by omega, rfl, j', false, qs ++ [q], ⟨rfl, rfl⟩, I2⟩
      · have e1 := eq_false hi
        have hii : i = ss.length := by omega
        rw [hii] at g3 I
        rw [List.take_length] at I
        repeat (first | (simp (maxSteps := 1000000) only [↓reduceIte, go_sem, g6, g7, g8, g3, e1]) | (simp (maxSteps := 1000000) (disch := first | omega | assumption) only [BB, g6, g7, g8, g3, e1]) | with_reducible refine Gst.now ?_ | with_reducible refine vawp_draw mixed (by kernel_rfl) ?_ | with_reducible first | refine lwV_out ?_ | refine lwV_out0 ?_ | refine lkC_out ?_ | refine And.intro (by omega) ?_ | fail)
        refine hq _ _ ?_
        repeat (first | (simp (maxSteps := 1000000) only [↓reduceIte, go_sem, g6, g7, g8, g3, e1]) | (simp (maxSteps := 1000000) (disch := first | omega | assumption) only [BB, g6, g7, g8, g3, e1]) | with_reducible refine Gst.now ?_ | with_reducible refine vawp_draw mixed (by kernel_rfl) ?_ | with_reducible first | refine lwV_out ?_ | refine lwV_out0 ?_ | refine lkC_out ?_ | refine And.intro (by omega) ?_ | fail)
        exact .now (hK _ _ _ _ I)
/-! ### a copy that is turned -/
def x1 (x : Nat) : Nat := x ^^^ 1
theorem x1_ne (x : Nat) : x1 x ≠ x := by
  unfold x1
  intro h
  have := congrArg (fun z => x ^^^ z) h
  simp only [← Nat.xor_assoc, Nat.xor_self, Nat.zero_xor] at this
  exact absurd this (by decide)
def xorS (s : SlotV) : SlotV := ⟨s.there, ⟨s.row.nl, s.row.bs.map x1⟩⟩
theorem getD_set {α : Type} {xs : List α} {i k : Nat} {y d : α} (hi : i < xs.length) : (xs.set i y).getD k d = if k = i then y else xs.getD k d := by
  rw [List.getD_eq_getElem?_getD, List.getElem?_set]
  by_cases h : i = k
  · subst h
    rw [if_pos rfl, if_pos rfl, if_pos hi]; rfl
  · rw [if_neg h, if_neg (Ne.symm h), ← List.getD_eq_getElem?_getD]
theorem clC_set : ∀ (ss : List SlotV) (qs : List Nat) (i : Nat) (s : SlotV), i < ss.length → s.there = (ss.getD i default).there → s.row.nl = (ss.getD i default).row.nl → s.row.bs.length = (ss.getD i default).row.bs.length → clC (ss.set i s) qs = clC ss qs
  | [], _, _, _, h, _, _, _ => by simp at h
  | a :: ss, [], _, _, _, _, _, _ => by
    rw [show clC (a :: ss) [] = [] by simp [clC]]
    cases hh : (a :: ss).set _ _ <;> simp [clC]
  | a :: ss, q :: qs, 0, s, _, h1, h2, h3 => by
    simp only [List.set_cons_zero, clC]
    have e1 : s.there = a.there := h1
    have e2 : s.row.nl = a.row.nl := h2
    have e3 : s.row.bs.length = a.row.bs.length := h3
    rw [e1, show rowW q s.row = rowW q a.row by unfold rowW; rw [e2, e3]]
  | a :: ss, q :: qs, i + 1, s, h, h1, h2, h3 => by
    simp only [List.set_cons_succ, clC]
    rw [clC_set ss qs i s (by simpa using h) h1 h2 h3]
theorem OwnT.upd {h1 : VH} {j i : Nat} {nl2 : Bool} {ss : List SlotV} {qs : List Nat} {bs' : List Nat} (I : OwnT h1 j nl2 ss qs) (hi : i < ss.length) (hn : (ss.getD i default).row.nl = false) (hl : bs'.length = (ss.getD i default).row.bs.length) : OwnT (hset h1 (qs.getD i 0) (.cells 5 false (bs'.map (iv .u8)))) j nl2 (ss.set i ⟨(ss.getD i default).there, ⟨false, bs'⟩⟩) qs := by
  have hnl : ∀ k, ((ss.set i ⟨(ss.getD i default).there, ⟨false, bs'⟩⟩).getD k default).row.nl = (ss.getD k default).row.nl := by
    intro k
    rw [getD_set hi]
    by_cases hk : k = i
    · rw [if_pos hk, hk, hn]
    · rw [if_neg hk]
  refine ⟨by rw [List.length_set]; exact I.len, ?_, fun hh => ?_, fun k hk hkn => ?_, fun a b hab hb ha1 hb1 => ?_⟩
  · rw [clC_set ss qs i ⟨(ss.getD i default).there, ⟨false, bs'⟩⟩ hi rfl hn.symm hl, hset_ne _ _ (Ne.symm (I.row i hi hn).2)]
    exact I.outer
  · have := I.nlz hh; subst this; simp at hi
  · rw [List.length_set] at hk
    rw [hnl] at hkn
    rw [getD_set hi]
    by_cases hki : k = i
    · rw [if_pos hki, hki]
      exact ⟨hset_at _ _ _, (I.row i hi hn).2⟩
    · rw [if_neg hki]
      have hd : qs.getD k 0 ≠ qs.getD i 0 := by
        rcases Nat.lt_or_gt_of_ne hki with hlt | hgt
        · exact I.dif k i hlt hi hkn hn
        · exact Ne.symm (I.dif i k hgt hk hn hkn)
      exact ⟨(hset_ne _ _ hd).trans (I.row k hk hkn).1, (I.row k hk hkn).2⟩
  · rw [List.length_set] at hb
    rw [hnl] at ha1 hb1
    exact I.dif a b hab hb ha1 hb1
theorem sameT_f : ∀ (xs ys : List SlotV) (m : Nat), m < xs.length → m < ys.length → sameS (xs.getD m default) (ys.getD m default) = false → sameT xs ys = false
  | [], _, _, h, _, _ => by simp at h
  | _ :: _, [], _, _, h, _ => by simp at h
  | a :: xs, b :: ys, 0, _, _, h => by rw [sameT, show sameS a b = false from h, Bool.false_and]
  | a :: xs, b :: ys, m + 1, h1, h2, h => by rw [sameT, sameT_f xs ys m (by simpa using h1) (by simpa using h2) h, Bool.and_false]
theorem map_x1_ne {bs : List Nat} (h : bs ≠ []) : bs.map x1 ≠ bs := by
  cases bs with
  | nil => exact absurd rfl h
  | cons x xs =>
    intro hh
    simp only [List.map_cons, List.cons.injEq] at hh
    exact x1_ne x hh.1
theorem joinR_ne {rs : List RowV} (h : (joinR rs).length ≠ 0) : ∃ m, m < rs.length ∧ (rs.getD m default).bs ≠ [] := by
  induction rs with
  | nil => exact absurd rfl h
  | cons r rs ih =>
    by_cases hr : r.bs = []
    · have : (joinR rs).length ≠ 0 := by simpa [joinR, hr] using h
      obtain ⟨m, hm, hb⟩ := ih this
      exact ⟨m + 1, by simpa using hm, by simpa using hb⟩
    · exact ⟨0, by simp, by simpa using hr⟩
/-- an own table, lent -/
theorem OwnT.bz {h1 : VH} {j : Nat} {nl2 : Bool} {ss : List SlotV} {qs : List Nat} (I : OwnT h1 j nl2 ss qs) (hz : ∀ s ∈ ss, s.row.nl = true → s.row.bs = []) : Bz h1 (.own j 0 ss.length) (.isl nl2 ss.length (ss.flatMap slotC)) := by
  have key : ∀ (ss : List SlotV) (qs : List Nat), qs.length = ss.length → (∀ i, i < ss.length → Bz h1 (rowW (qs.getD i 0) (ss.getD i default).row) (rowA (ss.getD i default).row)) → Bzs h1 (clC ss qs) (ss.flatMap slotC) := by
    intro ss
    induction ss with
    | nil =>
      intro qs hq _
      cases qs with
      | nil => trivial
      | cons _ _ => simp at hq
    | cons s ss ih =>
      intro qs hq hb
      cases qs with
      | nil => simp at hq
      | cons q qs =>
        exact ⟨.refl _, hb 0 (by simp), ih qs (by simpa using hq) fun i hi => hb (i + 1) (by simpa using hi)⟩
  have hb := key ss qs I.len fun i hi => by
    cases hn : (ss.getD i default).row.nl with
    | true =>
      have h0 := hz _ (getD_mem hi) hn
      unfold rowW rowA
      rw [if_pos hn, h0, hn]
      exact .refl _
    | false =>
      unfold rowW rowA
      rw [if_neg (by rw [hn]; decide), hn]
      exact Bz.same (I.row i hi hn).1
  exact .own I.outer hb.get.1 hb.get.2
end
end Go.Proofs.Ytgdhfabiljgdpaa.VBack
