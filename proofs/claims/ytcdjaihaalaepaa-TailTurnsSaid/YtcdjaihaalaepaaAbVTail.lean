/- package tail over the machine of values: the writers. -/
import Derived.Test.YtcdjaihaalaepaaProg
import Derived.Test.YtcdjaihaalaepaaAbV14
import Derived.Test.YtcdjaihaalaepaaAbFacts
import Derived.Test.YtcdjaihaalaepaaAbLittleM
import Derived.Test.YtcdjaihaalaepaaAbVLittle
import Derived.KernelRfl
import Derived.Laws.BitsAllLaws
set_option linter.unusedVariables false
set_option linter.unusedSimpArgs false
set_option maxRecDepth 100000
set_option maxHeartbeats 4000000
namespace Go.Proofs.Ytcdjaihaalaepaa.VTail
open Go.RowKit Go.Proofs.AbM Go.Proofs.Ytcdjaihaalaepaa.Facts Go.Proofs.Ytcdjaihaalaepaa.LittleM Go.Proofs.Ytcdjaihaalaepaa.VLittle
attribute [local go_sem] vawp_skip_eq vawp_seq_eq vawp_region_eq vawp_cond_g vawp_block_eq vawp_exit_eq vawp_ret_eq thenV_ret thenV_exit thenV_normal inBlockV_normal inBlockV_ret inBlockV_exit resKV_nil resKV_tmp resKV_cell oneV_one oneV_nil oneV_more initV_nil initV_cons updV_at evv_tmp evv_func evv_global evv_int evv_bool evv_str evv_snil evv_pnil evv_agg ofV3_int ofV3_bool ofV3_str ofV3_snil ofV3_pnil vok_tmp vok_func vok_global vok_int vok_bool vok_str vok_snil vok_pnil vok_agg cloV3_int cloV3_bool cloV3_str cloV3_snil cloV3_pnil voks_nil voks_cons scV_int scV_bool scV_str isBlV_b isBV_t isBV_f lwV_none lwV_sc lwV_agg lwV_tup lwV_isl lwV_own lwV_op lwV_ip lwV_fn lwV_junk vops_nil vops_n vops_s gsN_eq vop dstOk_some dstOk_none pkV_b blkV_set eRead_f eRead_t vLoad_op vLoad_ip vStore_op cells_sc cells_isl cells_own cells_op cells_ip cells_fn cells_agg parts_sc parts_isl parts_own parts_op parts_ip parts_fn parts_agg one_sc one_isl one_own one_op one_ip one_fn vField_op vField_ip ePart_f ePart_t vFieldV_agg vIx_isl vIx_own vIx_op vIx_ip vIxV_agg vIxV_str vLen_str vLen_isl vLen_own vLen_agg bndE_none bndE_int vSlice_isl vSlice_str vBin_add vBin_sub vBin_mul vBin_quo vBin_rem vBin_and vBin_or vBin_xor vBin_andNot vBin_eql vBin_neq vBin_lss vBin_leq vBin_gtr vBin_geq vBin_shr_i8 vBin_shl_i8 vBin_shr_i16 vBin_shl_i16 vBin_shr_i32 vBin_shl_i32 vBin_shr_i64 vBin_shl_i64 vBin_shr_u8 vBin_shl_u8 vBin_shr_u16 vBin_shl_u16 vBin_shr_u32 vBin_shl_u32 vBin_shr_u64 vBin_shl_u64 vBin_seq vBin_sne vBin_isln vBin_opn vBin_ipn ex_sc ex_sc2 ex_sc3 ex_tup calleeV wSc_pb wSc_pi wSc_not wSc_neg wSc_com wSc_min2 wSc_max2 vfold_nil vfold_one vfold_cons vfill_nil vfill_e eFill_s vBuild vBox vAlloc setV_map setV_zs setV_zn setV_s hset_hset eConv_ss vConv_e iv_eq ivI_eq ex_get ex_getI set_iv set_ivI okNil isNilV isSlV hdel_at hset_at List.map_toArray List.map_cons List.map_nil List.nil_append List.cons_append List.append_nil List.toList_toArray List.getElem?_toArray List.getElem_toArray List.getElem_cons_zero List.getElem_cons_succ List.getElem?_cons_zero List.getElem?_cons_succ List.set_cons_zero List.set_cons_succ List.set_set List.length_cons List.length_nil List.length_set List.length_map List.all_cons List.all_nil List.drop_zero List.drop_succ_cons List.take_succ_cons List.take_zero List.flatMap_cons Bool.and_eq_true true_and and_true if_true if_false ite_true ite_false forall_eq' forall_eq exists_eq_left exists_eq_left' exists_eq' Value.bool.injEq Value.int.injEq Value.string.injEq Value.pointer.injEq Option.some.injEq AV.sc.injEq AV.op.injEq AV.ip.injEq AV.own.injEq AV.agg.injEq VB.cells.injEq VB.iter.injEq Prod.mk.injEq decide_eq_true_eq decide_eq_false_iff_not Nat.reduceEqDiff Nat.reduceLT Nat.reduceLeDiff Nat.reduceSub Nat.reduceBEq reduceIte Int.reduceLE Int.reduceLT Int.reduceToNat Int.reduceNeg Int.reduceEq Int.reduceNe Int.cast_ofNat_Int Nat.reduceMul Nat.reduceAdd Nat.reduceDiv Nat.reduceMod Nat.reducePow Int.reduceSub Int.reduceAdd Int.reduceMul Int.reducePow Option.isSome_some Option.isSome_none Option.bind_some Option.map_some Option.map_none Option.toList_some Option.toList_none true_or or_true or_false false_or Bool.not_true Bool.not_false Bool.not_eq_true Bool.false_eq_true Bool.not_not false_implies true_implies implies_true Nat.zero_add Nat.add_zero Nat.mul_one Bool.not_eq_true' Bool.true_eq_false Bool.and_true Bool.true_and Bool.and_false Bool.false_and Bool.or_true Bool.true_or Bool.or_false Bool.false_or Option.isNone_some Option.isNone_none Int.reduceBEq Int.reduceBNe beq_self_eq_true bne_self_eq_false beq_iff_eq not_false_eq_true not_true_eq_false Decidable.not_not bne_iff_ne ne_eq Int.toNat_natCast gt_lt ge_le c_add c_mul c_sub c_addn c_nadd c_muln c_nmul c_subn c_nsub c_divn c_modn c_div c_mod c_tdivn c_tmodn c_tdiv c_tmod c_pow c_nn c_beq c_beqn c_bne c_bnen wr64 wr32 wru64 wru32 wru16 wru8 c_if c_if1 c_if2 c_lt c_le c_eq c_ltn c_len c_nlt c_nle c_eqn m_drop m_take Nat.add_sub_cancel_left Nat.add_sub_cancel Int.reduceTMod Int.reduceTDiv Int.reduceMod Int.reduceDiv isC_some hset_ne hdel_ne hdel_hset hdel_hset_ne blkV_nset blkV_ndel hset_hdel gV_t gV_f isGdV_b isGdV_u isBV_u isGdV_g isBV_gt isBV_gf decide_true decide_false Bool.or_eq_false_iff eq_self Nat.lt_irrefl Int.lt_irrefl Nat.le_refl Int.le_refl
attribute [local go_sem high] vops_pk vops_mv vops_as vops_smv pk_and pk_or pk_gand pk_gor pk_orn pk_gorn
attribute [local go_sem] ag3 sz3 zc3 ik3 ag4 sz4 zc4 ag5 sz5 zc5 ik5 ag9 sz9 zc9 iq9 ag22 sz22 zc22 ik22 ag23 sz23 zc23 ik23 ag25 sz25 zc25 eqs25 nes25 bo25 ag27 sz27 zc27 eqs27 nes27 bo27 ag29 sz29 el29 zc29 is29 ag33 sz33 zc33 ik33 ag41 sz41 zc41 ag45 sz45 zc45 bo45 ag47 sz47 el47 zc47 is47 ag48 sz48 el48 zc48 is48 ag52 sz52 el52 zc52 is52 ag56 sz56 el56 zc56 is56 ag59 sz59 zc59 pt59 ag63 sz63 zc63 bo63 of25_0 fd25_0 of25_1 fd25_1 of25_2 fd25_2 of25_3 fd25_3 of25_4 fd25_4 of25_5 fd25_5 of25_6 fd25_6 of25_7 fd25_7 of25_8 fd25_8 of27_0 fd27_0 of27_1 fd27_1 of27_2 fd27_2 of27_3 fd27_3 of27_4 fd27_4 of27_5 fd27_5 of27_6 fd27_6 of27_7 fd27_7 of27_8 fd27_8 of45_0 fd45_0 of45_1 fd45_1 of63_0 fd63_0 of63_1 fd63_1 of63_2 fd63_2 eqb neb
section
variable {n : Nat} {h : VH} {K : AV → VH → Prop}
def fldC (f : Nat × Nat) : List AV := [(.sc (.int .u64 ((f.1 : Nat)))), (.sc (.int .i64 ((f.2 : Nat))))]
attribute [local go_sem] fldC
theorem fldC_len (f : Nat × Nat) : (fldC f).length = 2 := rfl
def layN (fs : List (Nat × Nat)) : List Nat := fs.flatMap fun f => leB f.2 f.1
def OkF (f : Nat × Nat) : Prop := f.1 < 18446744073709551616 ∧ f.2 ≤ 8
theorem layN_len (fs : List (Nat × Nat)) (hf : ∀ f ∈ fs, OkF f) : (layN fs).length ≤ fs.length * 8 := by
  induction fs with
  | nil => simp [layN]
  | cons f fs ih =>
    have h1 := ih fun x hx => hf x (by simp [hx])
    have h2 := (hf f (by simp)).2
    unfold layN at *
    rw [List.flatMap_cons, List.length_append, leB_len, List.length_cons]
    omega
theorem layN_take {fs : List (Nat × Nat)} {i : Nat} (hi : i < fs.length) : layN (fs.take (i + 1)) = layN (fs.take i) ++ leB (fs.getD i default).2 (fs.getD i default).1 := by
  unfold layN
  rw [List.take_succ_eq_append_getElem hi, List.flatMap_append, List.getD_eq_getElem?_getD, List.getElem?_eq_getElem hi]; simp
theorem hs8_nat {k : Nat} (hk : k ≤ 8) : hs8 ((k : Nat) : Int) = k := by unfold hs8; omega
theorem lay_v {l : Nat} {nl : Bool} {fs : List (Nat × Nat)} (hl : l = fs.length) (hb : fs.length ≤ 1000) (hf : ∀ f ∈ fs, OkF f) (hK : ∀ j nl', h j = none → (nl' = true → layN fs = []) → FrK K (.own j 0 (layN fs).length) (hset h j (.cells 5 nl' ((layN fs).map (iv .u8))))) : VC Try.prog GL (n + 3) 20 [.isl nl l (fs.flatMap fldC)] h K := by
  refine VC_go Try.func20 rfl (by decide) Try.ntmps20 Try.results20 rfl fun Q hq hn => ?_
  subst hl
  have hfl := flat_len fldC_len fs
  repeat (first | (simp (maxSteps := 1000000) only [↓reduceIte, go_sem]) | (simp (maxSteps := 1000000) (disch := first | omega | assumption) only [BB]) | with_reducible refine vawp_draw mixed (by kernel_rfl) ?_ | with_reducible first | refine lwV_out ?_ | refine lwV_out0 ?_ | refine lkC_out ?_ | refine And.intro (by omega) ?_ | fail)
  refine .now ?_
  repeat (first | (simp (maxSteps := 1000000) only [↓reduceIte, go_sem]) | (simp (maxSteps := 1000000) (disch := first | omega | assumption) only [BB]) | with_reducible refine vawp_draw mixed (by kernel_rfl) ?_ | with_reducible first | refine lwV_out ?_ | refine lwV_out0 ?_ | refine lkC_out ?_ | refine And.intro (by omega) ?_ | fail)
  refine .mat 3 5 ?_ ?_
  · repeat (first | (simp (maxSteps := 1000000) only [↓reduceIte, go_sem]) | (simp (maxSteps := 1000000) (disch := first | omega | assumption) only [BB]) | with_reducible refine Gst.now ?_ | with_reducible refine vawp_draw mixed (by kernel_rfl) ?_ | with_reducible first | refine lwV_out ?_ | refine lwV_out0 ?_ | refine lkC_out ?_ | refine And.intro (by omega) ?_ | fail)
  · intro j0 hj0
    repeat (first | (simp (maxSteps := 1000000) only [↓reduceIte, go_sem]) | (simp (maxSteps := 1000000) (disch := first | omega | assumption) only [BB]) | with_reducible refine Gst.now ?_ | with_reducible refine vawp_draw mixed (by kernel_rfl) ?_ | with_reducible first | refine lwV_out ?_ | refine lwV_out0 ?_ | refine lkC_out ?_ | refine And.intro (by omega) ?_ | fail)
    refine vawp_loop (k := fs.length) (fun k ρ h1 => ∃ i : Nat, k + i = fs.length ∧ ρ 6 = .isl nl fs.length (fs.flatMap fldC) ∧ ρ 7 = (.sc (.int .i64 (fs.length))) ∧ ρ 8 = (.sc (.int .i64 (i))) ∧ ∃ j nl, h j = none ∧ (nl = true → layN (fs.take i) = []) ∧ ρ 3 = .own j 0 (layN (fs.take i)).length ∧ h1 = hset h j (.cells 5 nl ((layN (fs.take i)).map (iv .u8)))) ?_ ?_
    · refine ⟨0, by omega, ?_⟩
      repeat (first | (simp (maxSteps := 1000000) only [↓reduceIte, go_sem]) | (simp (maxSteps := 1000000) (disch := first | omega | assumption) only [BB]) | with_reducible refine Gst.now ?_ | with_reducible refine vawp_draw mixed (by kernel_rfl) ?_ | with_reducible first | refine lwV_out ?_ | refine lwV_out0 ?_ | refine lkC_out ?_ | refine And.intro (by omega) ?_ | fail)
      exact ⟨j0, true, hj0, fun _ => rfl, ⟨rfl, rfl⟩, rfl⟩
    · rintro k ρ h1 ⟨i, hki, g6, g7, g8, j, nl3, hj, hn3, g3, rfl⟩
      repeat (first | (simp (maxSteps := 1000000) only [↓reduceIte, go_sem, g6, g7, g8]) | (simp (maxSteps := 1000000) (disch := first | omega | assumption) only [BB, g6, g7, g8]) | with_reducible refine Gst.now ?_ | with_reducible refine vawp_draw mixed (by kernel_rfl) ?_ | with_reducible first | refine lwV_out ?_ | refine lwV_out0 ?_ | refine lkC_out ?_ | refine And.intro (by omega) ?_ | fail)
      split
      · have hi : i < fs.length := by omega
        have hel := flat_get fldC_len default fs i hi
        have hom : fs.getD i default ∈ fs := by rw [List.getD_eq_getElem?_getD, List.getElem?_eq_getElem hi]; exact List.getElem_mem hi
        have htk := layN_take hi
        have hlt := layN_len (fs.take i) fun x hx => hf x (List.mem_of_mem_take hx)
        rw [List.length_take] at hlt
        generalize fs.getD i default = o at *
        obtain ⟨o1, o2⟩ := hf o hom
        have hll := leB_len o.2 o.1
        repeat (first | (simp (maxSteps := 1000000) only [↓reduceIte, go_sem, g6, g8, hel]) | (simp (maxSteps := 1000000) (disch := first | omega | assumption) only [BB, g6, g8, hel]) | with_reducible refine Gst.now ?_ | with_reducible refine vawp_draw mixed (by kernel_rfl) ?_ | with_reducible first | refine lwV_out ?_ | refine lwV_out0 ?_ | refine lkC_out ?_ | refine And.intro (by omega) ?_ | fail)
        intro q hq
        try simp (disch := first | omega | assumption) only [go_sem, hset_none, hdel_none] at hq
        try simp (disch := first | omega | assumption) only [hset_none, hdel_none] at hq
        repeat (first | (simp (maxSteps := 1000000) only [↓reduceIte, go_sem, g3]) | (simp (maxSteps := 1000000) (disch := first | omega | assumption) only [BB, g3]) | with_reducible refine Gst.now ?_ | with_reducible refine vawp_draw mixed (by kernel_rfl) ?_ | with_reducible first | refine lwV_out ?_ | refine lwV_out0 ?_ | refine lkC_out ?_ | refine And.intro (by omega) ?_ | fail)
        with_reducible refine call_ok ?_
        refine lput_v o1 fun jx nlx hjx _ => .iso2 hjx ?_
        rw [hs8_nat o2]
        refine .now ?_
        repeat (first | (simp (maxSteps := 1000000) only [↓reduceIte, go_sem, g3]) | (simp (maxSteps := 1000000) (disch := first | omega | assumption) only [BB, g3]) | with_reducible refine Gst.now ?_ | with_reducible refine vawp_draw mixed (by kernel_rfl) ?_ | with_reducible first | refine lwV_out ?_ | refine lwV_out0 ?_ | refine lkC_out ?_ | refine And.intro (by omega) ?_ | fail)
        apply vApp_own_isl ap29 (by simp only [go_sem])
        case hv => first | (simp [hll]; done) | (simp [hll]; omega)
        case hj => repeat (first | exact hset_at _ _ _ | assumption | refine (hset_ne _ _ (by first | omega | assumption)).trans ?_ | refine (hdel_ne _ (by first | omega | assumption)).trans ?_ | fail)
        case hl => first | (simp [hll]; done) | (simp [hll]; omega)
        case h1 => first | omega | (simp [hll]; omega) | (simp [hll]; done)
        case h2 => first | omega | (simp [hll]; omega) | (simp [hll]; done)
        intro j' hj'
        try simp (disch := first | omega | assumption) only [go_sem, hset_none, hdel_none] at hj'
        try simp (disch := first | omega | assumption) only [hset_none, hdel_none] at hj'
        repeat (first | (simp (maxSteps := 1000000) only [↓reduceIte, go_sem]) | (simp (maxSteps := 1000000) (disch := first | omega | assumption) only [BB]) | with_reducible refine vawp_draw mixed (by kernel_rfl) ?_ | with_reducible first | refine lwV_out ?_ | refine lwV_out0 ?_ | refine lkC_out ?_ | refine And.intro (by omega) ?_ | fail)
        refine .drop q ?_
        repeat (first | (simp (maxSteps := 1000000) only [↓reduceIte, go_sem, g8]) | (simp (maxSteps := 1000000) (disch := first | omega | assumption) only [BB, g8]) | with_reducible refine Gst.now ?_ | with_reducible refine vawp_draw mixed (by kernel_rfl) ?_ | with_reducible first | refine lwV_out ?_ | refine lwV_out0 ?_ | refine lkC_out ?_ | refine And.intro (by omega) ?_ | fail)
        refine ⟨k - 1, by omega, i + 1, by omega, ?_⟩
        repeat (first | (simp (maxSteps := 1000000) only [↓reduceIte, go_sem, g6, g7]) | (simp (maxSteps := 1000000) (disch := first | omega | assumption) only [BB, g6, g7]) | with_reducible refine Gst.now ?_ | with_reducible refine vawp_draw mixed (by kernel_rfl) ?_ | with_reducible first | refine lwV_out ?_ | refine lwV_out0 ?_ | refine lkC_out ?_ | refine And.intro (by omega) ?_ | fail)
        refine ⟨j', nl3 && o.2 == 0, by simp [hj'], fun hh => ?_, ⟨rfl, by rw [htk, List.length_append, hll]⟩, ?_⟩
        · simp only [Bool.and_eq_true, beq_iff_eq] at hh
          rw [htk, hn3 hh.1, hh.2]; rfl
        rw [htk, List.map_append, hdel_hset (by simp [hq])]
      · repeat (first | (simp (maxSteps := 1000000) only [↓reduceIte, go_sem, g3]) | (simp (maxSteps := 1000000) (disch := first | omega | assumption) only [BB, g3]) | with_reducible refine Gst.now ?_ | with_reducible refine vawp_draw mixed (by kernel_rfl) ?_ | with_reducible first | refine lwV_out ?_ | refine lwV_out0 ?_ | refine lkC_out ?_ | refine And.intro (by omega) ?_ | fail)
        refine hq _ _ ?_
        repeat (first | (simp (maxSteps := 1000000) only [↓reduceIte, go_sem]) | (simp (maxSteps := 1000000) (disch := first | omega | assumption) only [BB]) | with_reducible refine Gst.now ?_ | with_reducible refine vawp_draw mixed (by kernel_rfl) ?_ | with_reducible first | refine lwV_out ?_ | refine lwV_out0 ?_ | refine lkC_out ?_ | refine And.intro (by omega) ?_ | fail)
        have hi : i = fs.length := by omega
        subst hi
        rw [List.take_length] at *
        exact hK _ _ hj hn3
structure TailV where
  d : Nat
  s : Nat
  h : Nat
  c : Nat
  z : Nat
  o : Nat
  d64 : Nat
  ds : Nat
  o64 : Nat
deriving DecidableEq, Inhabited
def tC (t : TailV) : List AV := [(.sc (.int .u32 ((t.d : Nat)))), (.sc (.int .u32 ((t.s : Nat)))), (.sc (.int .u64 ((t.h : Nat)))), (.sc (.int .u64 ((t.c : Nat)))), (.sc (.int .u64 ((t.z : Nat)))), (.sc (.int .u64 ((t.o : Nat)))), (.sc (.int .u32 ((t.d64 : Nat)))), (.sc (.int .u32 ((t.ds : Nat)))), (.sc (.int .u64 ((t.o64 : Nat))))]
attribute [local go_sem] tC
structure OkT (t : TailV) : Prop where
  d : t.d < 4294967296
  s : t.s < 4294967296
  h : t.h < 18446744073709551616
  c : t.c < 18446744073709551616
  z : t.z < 18446744073709551616
  o : t.o < 18446744073709551616
  d64 : t.d64 < 4294967296
  ds : t.ds < 4294967296
  o64 : t.o64 < 18446744073709551616
def greatF (t : TailV) : List (Nat × Nat) := [(101075792, 4), (44, 8), (45, 2), (45, 2), (t.d, 4), (t.s, 4), (t.h, 8), (t.c, 8), (t.z, 8), (t.o, 8)]
def locF (t : TailV) : List (Nat × Nat) := [(117853008, 4), (t.d64, 4), (t.o64, 8), (t.ds, 4)]
def endF (t : TailV) : List (Nat × Nat) := [(101010256, 4), (min t.d 65535, 2), (min t.s 65535, 2), (min t.h 65535, 2), (min t.c 65535, 2), (min t.z 4294967295, 4), (min t.o 4294967295, 4), (0, 2)]
theorem okF_greatF {t : TailV} (ht : OkT t) : ∀ f ∈ greatF t, OkF f := by
  obtain ⟨a, b, c, d, e, f, g, i, j⟩ := ht
  intro f hf
  simp only [greatF, List.mem_cons, List.not_mem_nil, or_false] at hf
  rcases hf with rfl | rfl | rfl | rfl | rfl | rfl | rfl | rfl | rfl | rfl <;> (unfold OkF; simp only; omega)
theorem okF_locF {t : TailV} (ht : OkT t) : ∀ f ∈ locF t, OkF f := by
  obtain ⟨a, b, c, d, e, f, g, i, j⟩ := ht
  intro f hf
  simp only [locF, List.mem_cons, List.not_mem_nil, or_false] at hf
  rcases hf with rfl | rfl | rfl | rfl <;> (unfold OkF; simp only; omega)
theorem okF_endF {t : TailV} (ht : OkT t) : ∀ f ∈ endF t, OkF f := by
  obtain ⟨a, b, c, d, e, f, g, i, j⟩ := ht
  intro f hf
  simp only [endF, List.mem_cons, List.not_mem_nil, or_false] at hf
  rcases hf with rfl | rfl | rfl | rfl | rfl | rfl | rfl | rfl <;> (unfold OkF; simp only; omega)
theorem greatF_len (t : TailV) : (layN (greatF t)).length = 56 := by simp [layN, greatF, leB_len]
theorem great_o {t : TailV} (ht : OkT t) (hK : ∀ j, h j = none → FrK K (.own j 0 56) (hset h j (.cells 5 false ((layN (greatF t)).map (iv .u8))))) : VC Try.prog GL (n + 4) 10 [.agg (tC t)] h K := by
  refine VC_go Try.func10 rfl (by decide) Try.ntmps10 Try.results10 rfl fun Q hq hn => ?_
  have hok := okF_greatF ht
  obtain ⟨a1, a2, a3, a4, a5, a6, a7, a8, a9⟩ := ht
  repeat (first | (simp (maxSteps := 1000000) only [↓reduceIte, go_sem]) | (simp (maxSteps := 1000000) (disch := first | omega | assumption) only [BB]) | with_reducible refine Gst.now ?_ | with_reducible refine vawp_draw mixed (by kernel_rfl) ?_ | with_reducible first | refine lwV_out ?_ | refine lwV_out0 ?_ | refine lkC_out ?_ | refine And.intro (by omega) ?_ | fail)
  intro j hj
  repeat (first | (simp (maxSteps := 1000000) only [↓reduceIte, go_sem]) | (simp (maxSteps := 1000000) (disch := first | omega | assumption) only [BB]) | with_reducible refine Gst.now ?_ | with_reducible refine vawp_draw mixed (by kernel_rfl) ?_ | with_reducible first | refine lwV_out ?_ | refine lwV_out0 ?_ | refine lkC_out ?_ | refine And.intro (by omega) ?_ | fail)
  refine vBuildS_isl' bs56 (by decide) ⟨(greatF t).flatMap fldC, rfl, rfl, ?_⟩
  repeat (first | (simp (maxSteps := 1000000) only [↓reduceIte, go_sem]) | (simp (maxSteps := 1000000) (disch := first | omega | assumption) only [BB]) | with_reducible refine Gst.now ?_ | with_reducible refine vawp_draw mixed (by kernel_rfl) ?_ | with_reducible first | refine lwV_out ?_ | refine lwV_out0 ?_ | refine lkC_out ?_ | refine And.intro (by omega) ?_ | fail)
  with_reducible refine call_ok ?_
  refine lay_v (fs := greatF t) rfl (by simp [greatF]) hok fun qn nq hqn hnq => ?_
  obtain rfl : nq = false := by
    cases nq with
    | true =>
      have e0 := hnq rfl
      have e1 := greatF_len t
      rw [e0] at e1; cases e1
    | false => rfl
  rw [greatF_len]
  refine .now ?_
  try simp (disch := first | omega | assumption) only [go_sem, hset_none, hdel_none] at hqn
  try simp (disch := first | omega | assumption) only [hset_none, hdel_none] at hqn
  repeat (first | (simp (maxSteps := 1000000) only [↓reduceIte, go_sem]) | (simp (maxSteps := 1000000) (disch := first | omega | assumption) only [BB]) | with_reducible refine Gst.now ?_ | with_reducible refine vawp_draw mixed (by kernel_rfl) ?_ | with_reducible first | refine lwV_out ?_ | refine lwV_out0 ?_ | refine lkC_out ?_ | refine And.intro (by omega) ?_ | fail)
  refine hq _ _ ?_
  repeat (first | (simp (maxSteps := 1000000) only [↓reduceIte, go_sem]) | (simp (maxSteps := 1000000) (disch := first | omega | assumption) only [BB]) | with_reducible refine Gst.now ?_ | with_reducible refine vawp_draw mixed (by kernel_rfl) ?_ | with_reducible first | refine lwV_out ?_ | refine lwV_out0 ?_ | refine lkC_out ?_ | refine And.intro (by omega) ?_ | fail)
  refine .drop j ?_
  refine hcast (hK _ hqn.2) ?_
  first | rfl | (funext i; simp only [hset, hdel]; repeat' split) <;> (first | rfl | (subst_vars; simp_all [hset, hdel]; done) | (subst_vars; exfalso; simp_all [hset, hdel]; done))
theorem great_v {t : TailV} (ht : OkT t) (hK : K (.isl false 56 ((layN (greatF t)).map (iv .u8))) h) : VC Try.prog GL (n + 4) 10 [.agg (tC t)] h K := great_o ht fun j hj => .iso hj hK
theorem locF_len (t : TailV) : (layN (locF t)).length = 20 := by simp [layN, locF, leB_len]
theorem loc_o {t : TailV} (ht : OkT t) (hK : ∀ j, h j = none → FrK K (.own j 0 20) (hset h j (.cells 5 false ((layN (locF t)).map (iv .u8))))) : VC Try.prog GL (n + 4) 12 [.agg (tC t)] h K := by
  refine VC_go Try.func12 rfl (by decide) Try.ntmps12 Try.results12 rfl fun Q hq hn => ?_
  have hok := okF_locF ht
  obtain ⟨a1, a2, a3, a4, a5, a6, a7, a8, a9⟩ := ht
  repeat (first | (simp (maxSteps := 1000000) only [↓reduceIte, go_sem]) | (simp (maxSteps := 1000000) (disch := first | omega | assumption) only [BB]) | with_reducible refine Gst.now ?_ | with_reducible refine vawp_draw mixed (by kernel_rfl) ?_ | with_reducible first | refine lwV_out ?_ | refine lwV_out0 ?_ | refine lkC_out ?_ | refine And.intro (by omega) ?_ | fail)
  intro j hj
  repeat (first | (simp (maxSteps := 1000000) only [↓reduceIte, go_sem]) | (simp (maxSteps := 1000000) (disch := first | omega | assumption) only [BB]) | with_reducible refine Gst.now ?_ | with_reducible refine vawp_draw mixed (by kernel_rfl) ?_ | with_reducible first | refine lwV_out ?_ | refine lwV_out0 ?_ | refine lkC_out ?_ | refine And.intro (by omega) ?_ | fail)
  refine vBuildS_isl' bs56 (by decide) ⟨(locF t).flatMap fldC, rfl, rfl, ?_⟩
  repeat (first | (simp (maxSteps := 1000000) only [↓reduceIte, go_sem]) | (simp (maxSteps := 1000000) (disch := first | omega | assumption) only [BB]) | with_reducible refine Gst.now ?_ | with_reducible refine vawp_draw mixed (by kernel_rfl) ?_ | with_reducible first | refine lwV_out ?_ | refine lwV_out0 ?_ | refine lkC_out ?_ | refine And.intro (by omega) ?_ | fail)
  with_reducible refine call_ok ?_
  refine lay_v (fs := locF t) rfl (by simp [locF]) hok fun qn nq hqn hnq => ?_
  obtain rfl : nq = false := by
    cases nq with
    | true =>
      have e0 := hnq rfl
      have e1 := locF_len t
      rw [e0] at e1; cases e1
    | false => rfl
  rw [locF_len]
  refine .now ?_
  try simp (disch := first | omega | assumption) only [go_sem, hset_none, hdel_none] at hqn
  try simp (disch := first | omega | assumption) only [hset_none, hdel_none] at hqn
  repeat (first | (simp (maxSteps := 1000000) only [↓reduceIte, go_sem]) | (simp (maxSteps := 1000000) (disch := first | omega | assumption) only [BB]) | with_reducible refine Gst.now ?_ | with_reducible refine vawp_draw mixed (by kernel_rfl) ?_ | with_reducible first | refine lwV_out ?_ | refine lwV_out0 ?_ | refine lkC_out ?_ | refine And.intro (by omega) ?_ | fail)
  refine hq _ _ ?_
  repeat (first | (simp (maxSteps := 1000000) only [↓reduceIte, go_sem]) | (simp (maxSteps := 1000000) (disch := first | omega | assumption) only [BB]) | with_reducible refine Gst.now ?_ | with_reducible refine vawp_draw mixed (by kernel_rfl) ?_ | with_reducible first | refine lwV_out ?_ | refine lwV_out0 ?_ | refine lkC_out ?_ | refine And.intro (by omega) ?_ | fail)
  refine .drop j ?_
  refine hcast (hK _ hqn.2) ?_
  first | rfl | (funext i; simp only [hset, hdel]; repeat' split) <;> (first | rfl | (subst_vars; simp_all [hset, hdel]; done) | (subst_vars; exfalso; simp_all [hset, hdel]; done))
theorem loc_v {t : TailV} (ht : OkT t) (hK : K (.isl false 20 ((layN (locF t)).map (iv .u8))) h) : VC Try.prog GL (n + 4) 12 [.agg (tC t)] h K := loc_o ht fun j hj => .iso hj hK
theorem two_v {x : Nat} (hx : x < 18446744073709551616) (hK : K (.agg (fldC (min x 65535, 2))) h) : VC Try.prog GL (n + 1) 22 [(.sc (.int .u64 (x)))] h K := by
  refine VC_go Try.func22 rfl (by decide) Try.ntmps22 Try.results22 rfl fun Q hq hn => ?_
  repeat (first | (simp (maxSteps := 1000000) only [↓reduceIte, go_sem]) | (simp (maxSteps := 1000000) (disch := first | omega | assumption) only [BB]) | with_reducible refine Gst.now ?_ | with_reducible refine vawp_draw mixed (by kernel_rfl) ?_ | with_reducible first | refine lwV_out ?_ | refine lwV_out0 ?_ | refine lkC_out ?_ | refine And.intro (by omega) ?_ | fail)
  intro j hj
  repeat (first | (simp (maxSteps := 1000000) only [↓reduceIte, go_sem]) | (simp (maxSteps := 1000000) (disch := first | omega | assumption) only [BB]) | with_reducible refine Gst.now ?_ | with_reducible refine vawp_draw mixed (by kernel_rfl) ?_ | with_reducible first | refine lwV_out ?_ | refine lwV_out0 ?_ | refine lkC_out ?_ | refine And.intro (by omega) ?_ | fail)
  refine hq _ _ ?_
  repeat (first | (simp (maxSteps := 1000000) only [↓reduceIte, go_sem]) | (simp (maxSteps := 1000000) (disch := first | omega | assumption) only [BB]) | with_reducible refine Gst.now ?_ | with_reducible refine vawp_draw mixed (by kernel_rfl) ?_ | with_reducible first | refine lwV_out ?_ | refine lwV_out0 ?_ | refine lkC_out ?_ | refine And.intro (by omega) ?_ | fail)
  refine .drop j ?_
  repeat (first | (simp (maxSteps := 1000000) only [↓reduceIte, go_sem]) | (simp (maxSteps := 1000000) (disch := first | omega | assumption) only [BB]) | with_reducible refine Gst.now ?_ | with_reducible refine vawp_draw mixed (by kernel_rfl) ?_ | with_reducible first | refine lwV_out ?_ | refine lwV_out0 ?_ | refine lkC_out ?_ | refine And.intro (by omega) ?_ | fail)
  rw [show (if 65535 < x then 65535 else x) = min x 65535 by split <;> omega]
  exact .now hK
theorem four_v {x : Nat} (hx : x < 18446744073709551616) (hK : K (.agg (fldC (min x 4294967295, 4))) h) : VC Try.prog GL (n + 1) 23 [(.sc (.int .u64 (x)))] h K := by
  refine VC_go Try.func23 rfl (by decide) Try.ntmps23 Try.results23 rfl fun Q hq hn => ?_
  repeat (first | (simp (maxSteps := 1000000) only [↓reduceIte, go_sem]) | (simp (maxSteps := 1000000) (disch := first | omega | assumption) only [BB]) | with_reducible refine Gst.now ?_ | with_reducible refine vawp_draw mixed (by kernel_rfl) ?_ | with_reducible first | refine lwV_out ?_ | refine lwV_out0 ?_ | refine lkC_out ?_ | refine And.intro (by omega) ?_ | fail)
  intro j hj
  repeat (first | (simp (maxSteps := 1000000) only [↓reduceIte, go_sem]) | (simp (maxSteps := 1000000) (disch := first | omega | assumption) only [BB]) | with_reducible refine Gst.now ?_ | with_reducible refine vawp_draw mixed (by kernel_rfl) ?_ | with_reducible first | refine lwV_out ?_ | refine lwV_out0 ?_ | refine lkC_out ?_ | refine And.intro (by omega) ?_ | fail)
  refine hq _ _ ?_
  repeat (first | (simp (maxSteps := 1000000) only [↓reduceIte, go_sem]) | (simp (maxSteps := 1000000) (disch := first | omega | assumption) only [BB]) | with_reducible refine Gst.now ?_ | with_reducible refine vawp_draw mixed (by kernel_rfl) ?_ | with_reducible first | refine lwV_out ?_ | refine lwV_out0 ?_ | refine lkC_out ?_ | refine And.intro (by omega) ?_ | fail)
  refine .drop j ?_
  repeat (first | (simp (maxSteps := 1000000) only [↓reduceIte, go_sem]) | (simp (maxSteps := 1000000) (disch := first | omega | assumption) only [BB]) | with_reducible refine Gst.now ?_ | with_reducible refine vawp_draw mixed (by kernel_rfl) ?_ | with_reducible first | refine lwV_out ?_ | refine lwV_out0 ?_ | refine lkC_out ?_ | refine And.intro (by omega) ?_ | fail)
  rw [show (if 4294967295 < x then 4294967295 else x) = min x 4294967295 by split <;> omega]
  exact .now hK
theorem endF_len (t : TailV) : (layN (endF t)).length = 22 := by simp [layN, endF, leB_len]
theorem end_o {t : TailV} (ht : OkT t) (hK : ∀ j, h j = none → FrK K (.own j 0 22) (hset h j (.cells 5 false ((layN (endF t)).map (iv .u8))))) : VC Try.prog GL (n + 4) 14 [.agg (tC t)] h K := by
  refine VC_go Try.func14 rfl (by decide) Try.ntmps14 Try.results14 rfl fun Q hq hn => ?_
  have hok := okF_endF ht
  obtain ⟨a1, a2, a3, a4, a5, a6, a7, a8, a9⟩ := ht
  repeat (first | (simp (maxSteps := 1000000) only [↓reduceIte, go_sem]) | (simp (maxSteps := 1000000) (disch := first | omega | assumption) only [BB]) | with_reducible first | refine lwV_out ?_ | refine lwV_out0 ?_ | refine lkC_out ?_ | refine And.intro (by omega) ?_ | fail)
  intro j hj
  repeat (first | (simp (maxSteps := 1000000) only [↓reduceIte, go_sem]) | (simp (maxSteps := 1000000) (disch := first | omega | assumption) only [BB]) | with_reducible first | refine lwV_out ?_ | refine lwV_out0 ?_ | refine lkC_out ?_ | refine And.intro (by omega) ?_ | fail)
  refine .now ?_
  repeat (first | (simp (maxSteps := 1000000) only [↓reduceIte, go_sem]) | (simp (maxSteps := 1000000) (disch := first | omega | assumption) only [BB]) | with_reducible first | refine lwV_out ?_ | refine lwV_out0 ?_ | refine lkC_out ?_ | refine And.intro (by omega) ?_ | fail)
  refine .now ?_
  repeat (first | (simp (maxSteps := 1000000) only [↓reduceIte, go_sem]) | (simp (maxSteps := 1000000) (disch := first | omega | assumption) only [BB]) | with_reducible first | refine lwV_out ?_ | refine lwV_out0 ?_ | refine lkC_out ?_ | refine And.intro (by omega) ?_ | fail)
  refine .now ?_
  apply vawp_quiet 28 3 mixed
  case hk => rfl
  case hok => kernel_rfl
  simp only [List.toList_toArray, List.take_succ_cons, List.take_zero]
  repeat (first | (apply vopsQ_n; (case hd => rfl); (case hq => (intro K' hk'; repeat (first | simp (maxSteps := 4000000) (disch := first | omega | assumption) only [↓reduceIte, go_sem] | with_reducible refine Gst.now ?_ | with_reducible refine vawp_draw mixed (by kernel_rfl) ?_ | with_reducible first | refine lwV_out ?_ | refine lwV_out0 ?_ | refine lkC_out ?_ | refine And.intro (by omega) ?_ | fail); exact hk'))) | (apply vopsQ_gt; (case hd => rfl); (case h1 => rfl); (case h2 => rfl); (case h3 => simp (disch := first | omega | assumption) only [↓reduceIte, go_sem]); (case hq => (intro K' hk'; repeat (first | simp (maxSteps := 4000000) (disch := first | omega | assumption) only [↓reduceIte, go_sem] | with_reducible refine Gst.now ?_ | with_reducible refine vawp_draw mixed (by kernel_rfl) ?_ | with_reducible first | refine lwV_out ?_ | refine lwV_out0 ?_ | refine lkC_out ?_ | refine And.intro (by omega) ?_ | fail); exact hk'))) | (apply vopsQ_gf'; (case hd => rfl); (case h1 => rfl); (case h2 => rfl); (case h3 => simp (disch := first | omega | assumption) only [↓reduceIte, go_sem])) | (apply vopsQ_gj; (case hd => rfl); (case h1 => rfl); (case h2 => rfl); (case h3 => simp (disch := first | omega | assumption) only [↓reduceIte, go_sem])) | fail)
  first | (apply vopsQ_n; (case hd => rfl)) | (apply vopsQ_gt; (case hd => rfl); (case h1 => rfl); (case h2 => rfl); (case h3 => simp (disch := first | omega | assumption) only [↓reduceIte, go_sem]))
  case hq => (intro K' hk'; repeat (first | simp (maxSteps := 4000000) (disch := first | omega | assumption) only [↓reduceIte, go_sem] | with_reducible refine Gst.now ?_ | with_reducible refine vawp_draw mixed (by kernel_rfl) ?_ | with_reducible first | refine lwV_out ?_ | refine lwV_out0 ?_ | refine lkC_out ?_ | refine And.intro (by omega) ?_ | fail); refine call_ok ?_; refine two_v (by omega) ?_; exact hk')
  repeat (first | (apply vopsQ_n; (case hd => rfl); (case hq => (intro K' hk'; repeat (first | simp (maxSteps := 4000000) (disch := first | omega | assumption) only [↓reduceIte, go_sem] | with_reducible refine Gst.now ?_ | with_reducible refine vawp_draw mixed (by kernel_rfl) ?_ | with_reducible first | refine lwV_out ?_ | refine lwV_out0 ?_ | refine lkC_out ?_ | refine And.intro (by omega) ?_ | fail); exact hk'))) | (apply vopsQ_gt; (case hd => rfl); (case h1 => rfl); (case h2 => rfl); (case h3 => simp (disch := first | omega | assumption) only [↓reduceIte, go_sem]); (case hq => (intro K' hk'; repeat (first | simp (maxSteps := 4000000) (disch := first | omega | assumption) only [↓reduceIte, go_sem] | with_reducible refine Gst.now ?_ | with_reducible refine vawp_draw mixed (by kernel_rfl) ?_ | with_reducible first | refine lwV_out ?_ | refine lwV_out0 ?_ | refine lkC_out ?_ | refine And.intro (by omega) ?_ | fail); exact hk'))) | (apply vopsQ_gf'; (case hd => rfl); (case h1 => rfl); (case h2 => rfl); (case h3 => simp (disch := first | omega | assumption) only [↓reduceIte, go_sem])) | (apply vopsQ_gj; (case hd => rfl); (case h1 => rfl); (case h2 => rfl); (case h3 => simp (disch := first | omega | assumption) only [↓reduceIte, go_sem])) | fail)
  first | (apply vopsQ_n; (case hd => rfl)) | (apply vopsQ_gt; (case hd => rfl); (case h1 => rfl); (case h2 => rfl); (case h3 => simp (disch := first | omega | assumption) only [↓reduceIte, go_sem]))
  case hq => (intro K' hk'; repeat (first | simp (maxSteps := 4000000) (disch := first | omega | assumption) only [↓reduceIte, go_sem] | with_reducible refine Gst.now ?_ | with_reducible refine vawp_draw mixed (by kernel_rfl) ?_ | with_reducible first | refine lwV_out ?_ | refine lwV_out0 ?_ | refine lkC_out ?_ | refine And.intro (by omega) ?_ | fail); refine call_ok ?_; refine two_v (by omega) ?_; exact hk')
  repeat (first | (apply vopsQ_n; (case hd => rfl); (case hq => (intro K' hk'; repeat (first | simp (maxSteps := 4000000) (disch := first | omega | assumption) only [↓reduceIte, go_sem] | with_reducible refine Gst.now ?_ | with_reducible refine vawp_draw mixed (by kernel_rfl) ?_ | with_reducible first | refine lwV_out ?_ | refine lwV_out0 ?_ | refine lkC_out ?_ | refine And.intro (by omega) ?_ | fail); exact hk'))) | (apply vopsQ_gt; (case hd => rfl); (case h1 => rfl); (case h2 => rfl); (case h3 => simp (disch := first | omega | assumption) only [↓reduceIte, go_sem]); (case hq => (intro K' hk'; repeat (first | simp (maxSteps := 4000000) (disch := first | omega | assumption) only [↓reduceIte, go_sem] | with_reducible refine Gst.now ?_ | with_reducible refine vawp_draw mixed (by kernel_rfl) ?_ | with_reducible first | refine lwV_out ?_ | refine lwV_out0 ?_ | refine lkC_out ?_ | refine And.intro (by omega) ?_ | fail); exact hk'))) | (apply vopsQ_gf'; (case hd => rfl); (case h1 => rfl); (case h2 => rfl); (case h3 => simp (disch := first | omega | assumption) only [↓reduceIte, go_sem])) | (apply vopsQ_gj; (case hd => rfl); (case h1 => rfl); (case h2 => rfl); (case h3 => simp (disch := first | omega | assumption) only [↓reduceIte, go_sem])) | fail)
  first | (apply vopsQ_n; (case hd => rfl)) | (apply vopsQ_gt; (case hd => rfl); (case h1 => rfl); (case h2 => rfl); (case h3 => simp (disch := first | omega | assumption) only [↓reduceIte, go_sem]))
  case hq => (intro K' hk'; repeat (first | simp (maxSteps := 4000000) (disch := first | omega | assumption) only [↓reduceIte, go_sem] | with_reducible refine Gst.now ?_ | with_reducible refine vawp_draw mixed (by kernel_rfl) ?_ | with_reducible first | refine lwV_out ?_ | refine lwV_out0 ?_ | refine lkC_out ?_ | refine And.intro (by omega) ?_ | fail); refine call_ok ?_; refine two_v (by omega) ?_; exact hk')
  repeat (first | (apply vopsQ_n; (case hd => rfl); (case hq => (intro K' hk'; repeat (first | simp (maxSteps := 4000000) (disch := first | omega | assumption) only [↓reduceIte, go_sem] | with_reducible refine Gst.now ?_ | with_reducible refine vawp_draw mixed (by kernel_rfl) ?_ | with_reducible first | refine lwV_out ?_ | refine lwV_out0 ?_ | refine lkC_out ?_ | refine And.intro (by omega) ?_ | fail); exact hk'))) | (apply vopsQ_gt; (case hd => rfl); (case h1 => rfl); (case h2 => rfl); (case h3 => simp (disch := first | omega | assumption) only [↓reduceIte, go_sem]); (case hq => (intro K' hk'; repeat (first | simp (maxSteps := 4000000) (disch := first | omega | assumption) only [↓reduceIte, go_sem] | with_reducible refine Gst.now ?_ | with_reducible refine vawp_draw mixed (by kernel_rfl) ?_ | with_reducible first | refine lwV_out ?_ | refine lwV_out0 ?_ | refine lkC_out ?_ | refine And.intro (by omega) ?_ | fail); exact hk'))) | (apply vopsQ_gf'; (case hd => rfl); (case h1 => rfl); (case h2 => rfl); (case h3 => simp (disch := first | omega | assumption) only [↓reduceIte, go_sem])) | (apply vopsQ_gj; (case hd => rfl); (case h1 => rfl); (case h2 => rfl); (case h3 => simp (disch := first | omega | assumption) only [↓reduceIte, go_sem])) | fail)
  first | (apply vopsQ_n; (case hd => rfl)) | (apply vopsQ_gt; (case hd => rfl); (case h1 => rfl); (case h2 => rfl); (case h3 => simp (disch := first | omega | assumption) only [↓reduceIte, go_sem]))
  case hq => (intro K' hk'; repeat (first | simp (maxSteps := 4000000) (disch := first | omega | assumption) only [↓reduceIte, go_sem] | with_reducible refine Gst.now ?_ | with_reducible refine vawp_draw mixed (by kernel_rfl) ?_ | with_reducible first | refine lwV_out ?_ | refine lwV_out0 ?_ | refine lkC_out ?_ | refine And.intro (by omega) ?_ | fail); refine call_ok ?_; refine two_v (by omega) ?_; exact hk')
  repeat (first | (apply vopsQ_n; (case hd => rfl); (case hq => (intro K' hk'; repeat (first | simp (maxSteps := 4000000) (disch := first | omega | assumption) only [↓reduceIte, go_sem] | with_reducible refine Gst.now ?_ | with_reducible refine vawp_draw mixed (by kernel_rfl) ?_ | with_reducible first | refine lwV_out ?_ | refine lwV_out0 ?_ | refine lkC_out ?_ | refine And.intro (by omega) ?_ | fail); exact hk'))) | (apply vopsQ_gt; (case hd => rfl); (case h1 => rfl); (case h2 => rfl); (case h3 => simp (disch := first | omega | assumption) only [↓reduceIte, go_sem]); (case hq => (intro K' hk'; repeat (first | simp (maxSteps := 4000000) (disch := first | omega | assumption) only [↓reduceIte, go_sem] | with_reducible refine Gst.now ?_ | with_reducible refine vawp_draw mixed (by kernel_rfl) ?_ | with_reducible first | refine lwV_out ?_ | refine lwV_out0 ?_ | refine lkC_out ?_ | refine And.intro (by omega) ?_ | fail); exact hk'))) | (apply vopsQ_gf'; (case hd => rfl); (case h1 => rfl); (case h2 => rfl); (case h3 => simp (disch := first | omega | assumption) only [↓reduceIte, go_sem])) | (apply vopsQ_gj; (case hd => rfl); (case h1 => rfl); (case h2 => rfl); (case h3 => simp (disch := first | omega | assumption) only [↓reduceIte, go_sem])) | fail)
  first | (apply vopsQ_n; (case hd => rfl)) | (apply vopsQ_gt; (case hd => rfl); (case h1 => rfl); (case h2 => rfl); (case h3 => simp (disch := first | omega | assumption) only [↓reduceIte, go_sem]))
  case hq => (intro K' hk'; repeat (first | simp (maxSteps := 4000000) (disch := first | omega | assumption) only [↓reduceIte, go_sem] | with_reducible refine Gst.now ?_ | with_reducible refine vawp_draw mixed (by kernel_rfl) ?_ | with_reducible first | refine lwV_out ?_ | refine lwV_out0 ?_ | refine lkC_out ?_ | refine And.intro (by omega) ?_ | fail); refine call_ok ?_; refine four_v (by omega) ?_; exact hk')
  repeat (first | (apply vopsQ_n; (case hd => rfl); (case hq => (intro K' hk'; repeat (first | simp (maxSteps := 4000000) (disch := first | omega | assumption) only [↓reduceIte, go_sem] | with_reducible refine Gst.now ?_ | with_reducible refine vawp_draw mixed (by kernel_rfl) ?_ | with_reducible first | refine lwV_out ?_ | refine lwV_out0 ?_ | refine lkC_out ?_ | refine And.intro (by omega) ?_ | fail); exact hk'))) | (apply vopsQ_gt; (case hd => rfl); (case h1 => rfl); (case h2 => rfl); (case h3 => simp (disch := first | omega | assumption) only [↓reduceIte, go_sem]); (case hq => (intro K' hk'; repeat (first | simp (maxSteps := 4000000) (disch := first | omega | assumption) only [↓reduceIte, go_sem] | with_reducible refine Gst.now ?_ | with_reducible refine vawp_draw mixed (by kernel_rfl) ?_ | with_reducible first | refine lwV_out ?_ | refine lwV_out0 ?_ | refine lkC_out ?_ | refine And.intro (by omega) ?_ | fail); exact hk'))) | (apply vopsQ_gf'; (case hd => rfl); (case h1 => rfl); (case h2 => rfl); (case h3 => simp (disch := first | omega | assumption) only [↓reduceIte, go_sem])) | (apply vopsQ_gj; (case hd => rfl); (case h1 => rfl); (case h2 => rfl); (case h3 => simp (disch := first | omega | assumption) only [↓reduceIte, go_sem])) | fail)
  first | (apply vopsQ_n; (case hd => rfl)) | (apply vopsQ_gt; (case hd => rfl); (case h1 => rfl); (case h2 => rfl); (case h3 => simp (disch := first | omega | assumption) only [↓reduceIte, go_sem]))
  case hq => (intro K' hk'; repeat (first | simp (maxSteps := 4000000) (disch := first | omega | assumption) only [↓reduceIte, go_sem] | with_reducible refine Gst.now ?_ | with_reducible refine vawp_draw mixed (by kernel_rfl) ?_ | with_reducible first | refine lwV_out ?_ | refine lwV_out0 ?_ | refine lkC_out ?_ | refine And.intro (by omega) ?_ | fail); refine call_ok ?_; refine four_v (by omega) ?_; exact hk')
  repeat (first | (apply vopsQ_n; (case hd => rfl); (case hq => (intro K' hk'; repeat (first | simp (maxSteps := 4000000) (disch := first | omega | assumption) only [↓reduceIte, go_sem] | with_reducible refine Gst.now ?_ | with_reducible refine vawp_draw mixed (by kernel_rfl) ?_ | with_reducible first | refine lwV_out ?_ | refine lwV_out0 ?_ | refine lkC_out ?_ | refine And.intro (by omega) ?_ | fail); exact hk'))) | (apply vopsQ_gt; (case hd => rfl); (case h1 => rfl); (case h2 => rfl); (case h3 => simp (disch := first | omega | assumption) only [↓reduceIte, go_sem]); (case hq => (intro K' hk'; repeat (first | simp (maxSteps := 4000000) (disch := first | omega | assumption) only [↓reduceIte, go_sem] | with_reducible refine Gst.now ?_ | with_reducible refine vawp_draw mixed (by kernel_rfl) ?_ | with_reducible first | refine lwV_out ?_ | refine lwV_out0 ?_ | refine lkC_out ?_ | refine And.intro (by omega) ?_ | fail); exact hk'))) | (apply vopsQ_gf'; (case hd => rfl); (case h1 => rfl); (case h2 => rfl); (case h3 => simp (disch := first | omega | assumption) only [↓reduceIte, go_sem])) | (apply vopsQ_gj; (case hd => rfl); (case h1 => rfl); (case h2 => rfl); (case h3 => simp (disch := first | omega | assumption) only [↓reduceIte, go_sem])) | fail)
  simp only [vopsQ_nil]
  apply vany_one 28
  case hr => kernel_rfl
  case ho => rfl
  repeat (first | (simp (maxSteps := 1000000) only [↓reduceIte, go_sem]) | (simp (maxSteps := 1000000) (disch := first | omega | assumption) only [BB]) | with_reducible first | refine lwV_out ?_ | refine lwV_out0 ?_ | refine lkC_out ?_ | refine And.intro (by omega) ?_ | fail)
  refine vBuildS_isl' bs56 (by decide) ⟨(endF t).flatMap fldC, rfl, rfl, ?_⟩
  repeat (first | (simp (maxSteps := 1000000) only [↓reduceIte, go_sem]) | (simp (maxSteps := 1000000) (disch := first | omega | assumption) only [BB]) | with_reducible first | refine lwV_out ?_ | refine lwV_out0 ?_ | refine lkC_out ?_ | refine And.intro (by omega) ?_ | fail)
  apply vany_one 29
  case hr => kernel_rfl
  case ho => rfl
  repeat (first | (simp (maxSteps := 1000000) only [↓reduceIte, go_sem]) | (simp (maxSteps := 1000000) (disch := first | omega | assumption) only [BB]) | with_reducible first | refine lwV_out ?_ | refine lwV_out0 ?_ | refine lkC_out ?_ | refine And.intro (by omega) ?_ | fail)
  with_reducible refine call_ok ?_
  refine lay_v (fs := endF t) rfl (by simp [endF]) hok fun qn nq hqn hnq => ?_
  obtain rfl : nq = false := by
    cases nq with
    | true =>
      have e0 := hnq rfl
      have e1 := endF_len t
      rw [e0] at e1; cases e1
    | false => rfl
  rw [endF_len]
  refine .now ?_
  try simp (disch := first | omega | assumption) only [go_sem, hset_none, hdel_none] at hqn
  try simp (disch := first | omega | assumption) only [hset_none, hdel_none] at hqn
  repeat (first | (simp (maxSteps := 1000000) only [↓reduceIte, go_sem]) | (simp (maxSteps := 1000000) (disch := first | omega | assumption) only [BB]) | with_reducible first | refine lwV_out ?_ | refine lwV_out0 ?_ | refine lkC_out ?_ | refine And.intro (by omega) ?_ | fail)
  apply vany_one 30
  case hr => kernel_rfl
  case ho => rfl
  repeat (first | (simp (maxSteps := 1000000) only [↓reduceIte, go_sem]) | (simp (maxSteps := 1000000) (disch := first | omega | assumption) only [BB]) | with_reducible first | refine lwV_out ?_ | refine lwV_out0 ?_ | refine lkC_out ?_ | refine And.intro (by omega) ?_ | fail)
  refine vany_end (by kernel_rfl) ?_
  repeat (first | (simp (maxSteps := 1000000) only [↓reduceIte, go_sem]) | (simp (maxSteps := 1000000) (disch := first | omega | assumption) only [BB]) | with_reducible refine Gst.now ?_ | with_reducible refine vawp_draw mixed (by kernel_rfl) ?_ | with_reducible first | refine lwV_out ?_ | refine lwV_out0 ?_ | refine lkC_out ?_ | refine And.intro (by omega) ?_ | fail)
  refine hq _ _ ?_
  repeat (first | (simp (maxSteps := 1000000) only [↓reduceIte, go_sem]) | (simp (maxSteps := 1000000) (disch := first | omega | assumption) only [BB]) | with_reducible refine Gst.now ?_ | with_reducible refine vawp_draw mixed (by kernel_rfl) ?_ | with_reducible first | refine lwV_out ?_ | refine lwV_out0 ?_ | refine lkC_out ?_ | refine And.intro (by omega) ?_ | fail)
  refine .drop j ?_
  refine hcast (hK _ hqn.2) ?_
  first | rfl | (funext i; simp only [hset, hdel]; repeat' split) <;> (first | rfl | (subst_vars; simp_all [hset, hdel]; done) | (subst_vars; exfalso; simp_all [hset, hdel]; done))
  exact 0
theorem end_v {t : TailV} (ht : OkT t) (hK : K (.isl false 22 ((layN (endF t)).map (iv .u8))) h) : VC Try.prog GL (n + 4) 14 [.agg (tC t)] h K := end_o ht fun j hj => .iso hj hK
end
end Go.Proofs.Ytcdjaihaalaepaa.VTail
