/- crc.Blocks over the machine of values. -/
import Derived.Test.YtbmidddpddiopaaDoorProg
import Derived.Test.YtbmidddpddiopaaDoorAbV17
import Derived.Test.YtbmidddpddiopaaDoorAbFacts
import Derived.Test.YtbmidddpddiopaaDoorAbVChunk
import Derived.Test.YtbmidddpddiopaaDoorAbVBlocks
import Derived.Test.YtbmidddpddiopaaDoorAbVCrcP
import Derived.Test.YtbmidddpddiopaaDoorAbVG
import Derived.Test.YtbmidddpddiopaaDoorAbVCrc
import Derived.Test.YtbmidddpddiopaaDoorAbVCrcR
import Derived.KernelRfl
import Derived.Laws.BitsAllLaws
set_option linter.unusedVariables false
set_option linter.unusedSimpArgs false
set_option maxRecDepth 100000
set_option maxHeartbeats 4000000
namespace Go.Proofs.YtbmidddpddiopaaDoor.VBlk
open Go.RowKit Go.Proofs.AbM Go.Proofs.YtbmidddpddiopaaDoor.Facts Go.Proofs.YtbmidddpddiopaaDoor.VChunk Go.Proofs.YtbmidddpddiopaaDoor.VBlocks Go.Proofs.YtbmidddpddiopaaDoor.VCrcP Go.Proofs.YtbmidddpddiopaaDoor.VG Go.Proofs.YtbmidddpddiopaaDoor.VCrc Go.Proofs.YtbmidddpddiopaaDoor.VCrcR
attribute [local go_sem] vawp_skip_eq vawp_seq_eq vawp_region_eq vawp_cond_g vawp_block_eq vawp_exit_eq vawp_ret_eq thenV_ret thenV_exit thenV_normal inBlockV_normal inBlockV_ret inBlockV_exit resKV_nil resKV_tmp resKV_cell oneV_one oneV_nil oneV_more initV_nil initV_cons updV_at evv_tmp evv_func evv_global evv_int evv_bool evv_str evv_snil evv_pnil evv_agg ofV3_int ofV3_bool ofV3_str ofV3_snil ofV3_pnil vok_tmp vok_func vok_global vok_int vok_bool vok_str vok_snil vok_pnil vok_agg cloV3_int cloV3_bool cloV3_str cloV3_snil cloV3_pnil voks_nil voks_cons scV_int scV_bool scV_str isBlV_b isBV_t isBV_f lwV_none lwV_sc lwV_agg lwV_tup lwV_isl lwV_own lwV_op lwV_ip lwV_fn lwV_junk vops_nil vops_n vops_s gsN_eq vop dstOk_some dstOk_none pkV_b blkV_set eRead_f eRead_t vLoad_op vLoad_ip vStore_op cells_sc cells_isl cells_own cells_op cells_ip cells_fn cells_agg parts_sc parts_isl parts_own parts_op parts_ip parts_fn parts_agg one_sc one_isl one_own one_op one_ip one_fn vField_op vField_ip ePart_f ePart_t vFieldV_agg vIx_isl vIx_own vIx_op vIx_ip vIxV_agg vIxV_str vLen_str vLen_isl vLen_own vLen_agg bndE_none bndE_int vSlice_isl vSlice_str vBin_add vBin_sub vBin_mul vBin_quo vBin_rem vBin_and vBin_or vBin_xor vBin_andNot vBin_eql vBin_neq vBin_lss vBin_leq vBin_gtr vBin_geq vBin_shr_i8 vBin_shl_i8 vBin_shr_i16 vBin_shl_i16 vBin_shr_i32 vBin_shl_i32 vBin_shr_i64 vBin_shl_i64 vBin_shr_u8 vBin_shl_u8 vBin_shr_u16 vBin_shl_u16 vBin_shr_u32 vBin_shl_u32 vBin_shr_u64 vBin_shl_u64 vBin_seq vBin_sne vBin_isln vBin_opn vBin_ipn ex_sc ex_sc2 ex_sc3 ex_tup calleeV wSc_pb wSc_pi wSc_not wSc_neg wSc_com wSc_min2 wSc_max2 vfold_nil vfold_one vfold_cons vfill_nil vfill_e eFill_s vBuild vBox vAlloc setV_map setV_zs setV_zn setV_s hset_hset eConv_ss vConv_e iv_eq ivI_eq ex_get ex_getI set_iv set_ivI okNil isNilV isSlV hdel_at hset_at List.map_toArray List.map_cons List.map_nil List.nil_append List.cons_append List.append_nil List.toList_toArray List.getElem?_toArray List.getElem_toArray List.getElem_cons_zero List.getElem_cons_succ List.getElem?_cons_zero List.getElem?_cons_succ List.set_cons_zero List.set_cons_succ List.set_set List.length_cons List.length_nil List.length_set List.length_map List.all_cons List.all_nil List.drop_zero List.drop_succ_cons List.take_succ_cons List.take_zero List.flatMap_cons Bool.and_eq_true true_and and_true if_true if_false ite_true ite_false forall_eq' forall_eq exists_eq_left exists_eq_left' exists_eq' Value.bool.injEq Value.int.injEq Value.string.injEq Value.pointer.injEq Option.some.injEq AV.sc.injEq AV.op.injEq AV.ip.injEq AV.own.injEq AV.agg.injEq VB.cells.injEq VB.iter.injEq Prod.mk.injEq decide_eq_true_eq decide_eq_false_iff_not Nat.reduceEqDiff Nat.reduceLT Nat.reduceLeDiff Nat.reduceSub Nat.reduceBEq reduceIte Int.reduceLE Int.reduceLT Int.reduceToNat Int.reduceNeg Int.reduceEq Int.reduceNe Int.cast_ofNat_Int Nat.reduceMul Nat.reduceAdd Nat.reduceDiv Nat.reduceMod Nat.reducePow Int.reduceSub Int.reduceAdd Int.reduceMul Int.reducePow Option.isSome_some Option.isSome_none Option.bind_some Option.map_some Option.map_none Option.toList_some Option.toList_none true_or or_true or_false false_or Bool.not_true Bool.not_false Bool.not_eq_true Bool.false_eq_true Bool.not_not false_implies true_implies implies_true Nat.zero_add Nat.add_zero Nat.mul_one Bool.not_eq_true' Bool.true_eq_false Bool.and_true Bool.true_and Bool.and_false Bool.false_and Bool.or_true Bool.true_or Bool.or_false Bool.false_or Option.isNone_some Option.isNone_none Int.reduceBEq Int.reduceBNe beq_self_eq_true bne_self_eq_false beq_iff_eq not_false_eq_true not_true_eq_false Decidable.not_not bne_iff_ne ne_eq Int.toNat_natCast gt_lt ge_le c_add c_mul c_sub c_addn c_nadd c_muln c_nmul c_subn c_nsub c_divn c_modn c_div c_mod c_tdivn c_tmodn c_tdiv c_tmod c_pow c_nn c_beq c_beqn c_bne c_bnen wr64 wr32 wru64 wru32 wru16 wru8 c_if c_if1 c_if2 c_lt c_le c_eq c_ltn c_len c_nlt c_nle c_eqn m_drop m_take Nat.add_sub_cancel_left Nat.add_sub_cancel Int.reduceTMod Int.reduceTDiv Int.reduceMod Int.reduceDiv isC_some hset_ne hdel_ne hdel_hset hdel_hset_ne blkV_nset blkV_ndel hset_hdel gV_t gV_f isGdV_b isGdV_u isBV_u isGdV_g isBV_gt isBV_gf decide_true decide_false Bool.or_eq_false_iff eq_self Nat.lt_irrefl Int.lt_irrefl Nat.le_refl Int.le_refl
attribute [local go_sem high] vops_pk vops_mv vops_as vops_smv pk_and pk_or pk_gand pk_gor pk_orn pk_gorn
attribute [local go_sem] ag3 sz3 zc3 ik3 ag4 sz4 zc4 ag5 sz5 zc5 ik5 ag22 sz22 zc22 ik22 ag23 sz23 el23 zc23 is23 ag28 sz28 el28 zc28 is28 ag32 sz32 el32 zc32 is32 ag41 sz41 ea41 an41 zc41 bo41 eqb neb
section
variable {n : Nat} {h : VH} {K : AV → VH → Prop}
def blkN (sz : Nat) (bs : List Nat) : List Nat := (upto (fun k => k * sz) (rounds bs.length sz)).map fun st => (crcU 0#32 ((bs.drop st).take sz)).toNat
theorem blkN_len (sz : Nat) (bs : List Nat) : (blkN sz bs).length = rounds bs.length sz := by unfold blkN; rw [List.length_map, upto_length]
theorem blocks_sum {W W1 : World} {bs : List Nat} {a : Option Addr} {sz : Nat} (hG : GOk W GL) (h8 : ∀ b ∈ bs, b < 256) (hb : bs.length ≤ 1048576) (hn0 : a = none → bs.length = 0)
    (ha : ∀ ad, a = some ad → 0 < bs.length → ad.spot = none ∧ ad.block < W.heap.size ∧ ∀ (i : Nat) (x : Value), (bs.map fun b : Nat => Value.int .u8 (b : Int))[i]? = some x → W.cell? (ad.add i) = some x)
    (hB : Below W.heap.size W W1) (st : Nat) : Calls Tryd.prog 11 #[partsV a bs.length sz st] W1 fun e W' => e = .returned (.int .u32 ((crcU 0#32 ((bs.drop st).take sz)).toNat : Nat)) ∧ Below W1.heap.size W1 W' := by
  have hG1 := hG.base hB
  by_cases hlt : st < bs.length
  · obtain ⟨ad, rfl⟩ : ∃ ad, a = some ad := by
      cases a with
      | none => have := hn0 rfl; omega
      | some ad => exact ⟨ad, rfl⟩
    obtain ⟨k1, k2, k3⟩ := ha ad rfl (by omega)
    have hl : ((bs.drop st).take sz).length = min sz (bs.length - st) := by simp
    have hcell : ∀ (i : Nat) (x : Value), (((bs.drop st).take sz).map fun b : Nat => Value.int .u8 (b : Int))[i]? = some x → W1.cell? ((ad.add st).add i) = some x := by
      intro i x hx
      rw [List.getElem?_map, List.getElem?_take] at hx
      split at hx
      · rw [List.getElem?_drop] at hx
        have := k3 (st + i) x (by rw [List.getElem?_map]; exact hx)
        have e : (ad.add st).add i = ad.add (st + i) := by obtain ⟨bl, of, sp⟩ := ad; cases k1; rw [add_at, add_at, add_at, Nat.add_assoc]
        rw [e, hB.cell (by rw [add_blk]; exact k2)]
        exact this
      · simp at hx
    have hspot : (ad.add st).spot = none := by obtain ⟨bl, of, sp⟩ := ad; cases k1; rw [add_at]
    obtain ⟨r1, r2⟩ := isl_enter (W := W1) (C := C0) (m := []) (n := min sz (bs.length - st)) (c := min sz (bs.length - st)) hspot (by rw [add_blk]; exact Nat.lt_of_lt_of_le k2 hB.size) (Nat.le_refl _) hcell (fun x hx => by
      obtain ⟨b, _, rfl⟩ := List.mem_map.1 hx; rfl)
    rw [show partsV (some ad) bs.length sz st = .slice (some (ad.add st)) (min sz (bs.length - st)) (min sz (bs.length - st)) from if_pos hlt]
    refine vc_world (d := 2) hG1 ?_ (RVs.cons r1 RVs.nil) (VRs.cons r2 VRs.nil)
    have e : (((bs.drop st).take sz).map fun b : Nat => Value.int .u8 (b : Int)).map AV.sc = ((bs.drop st).take sz).map (iv .u8) := by rw [List.map_map]; rfl
    rw [e]
    exact sum_v (n := 0) hl.symm (fun b hb => h8 b (List.mem_of_mem_drop (List.mem_of_mem_take hb))) (by omega) rfl
  · have hd : bs.drop st = [] := List.drop_of_length_le (by omega)
    rw [hd, List.take_nil]
    have hp : partsV a bs.length sz st = .slice none 0 0 := by
      cases a with
      | none => rfl
      | some ad => exact if_neg hlt
    rw [hp]
    refine vc_world (d := 2) hG1 ?_ (RVs.cons isl_nil RVs.nil) (VRs.cons vr_nil VRs.nil)
    exact sum_v (n := 0) (bs := []) rfl (fun b hb => by simp at hb) (by simp) rfl
theorem blocks_world {W0 W : World} {C : Cx} {h1 : Hp} {m : List (Nat × Nat)} {a : Option Addr} {c z : Nat} {bs : List Nat} (h8 : ∀ b ∈ bs, b < 256) (hb : bs.length ≤ 1048576) (hz1' : 1 ≤ z) (hz2' : z < 9223372036854775808) (hG : GOk W0 GL) (V : VRel W0 C h h1) (R : Rel Tryd.prog W0 m h1 W)
    (hc : bs.length ≤ c) (hn0 : a = none → bs.length = 0) (ha : ∀ ad, a = some ad → 0 < bs.length → ad.spot = none ∧ ad.block < W.heap.size ∧ ∀ (i : Nat) (x : Value), (bs.map fun b : Nat => Value.int .u8 (b : Int))[i]? = some x → W.cell? (ad.add i) = some x)
    (hK : K (.isl (decide (rounds bs.length z = 0)) (blkN z bs).length ((blkN z bs).map (iv .u32))) h) :
    Calls Tryd.prog 14 #[.slice a bs.length c, .int .i64 z] W fun e W' => ∃ v v' h' m', e = .returned v' ∧ VK W0 C K v h' ∧ m <+: m' ∧ Rel Tryd.prog W0 m' h' W' ∧ VR W0.heap.size m' v v' := by
  have hGW := hG.base R.below
  obtain ⟨i0, hi, hz0, hz1, hz2⟩ := info_parts infoU32
  refine (blocks_w W a bs.length c z (fun st => (crcU 0#32 ((bs.drop st).take z)).toNat) (by omega) (by omega) hb hc hn0 (fun W1 hB st => blocks_sum hGW h8 hb hn0 ha hB st)).mono ?_
  rintro e' W' ⟨v, rfl, hown, hnil, hB⟩
  have hK' := hK
  rw [blkN_len] at hK'
  have e2 : (blkN z bs).map (iv .u32) = ((upto (fun k => k * z) (rounds bs.length z)).map fun st => Value.int .u32 ((crcU 0#32 ((bs.drop st).take z)).toNat : Nat)).map AV.sc := by
    unfold blkN; rw [List.map_map, List.map_map]; rfl
  rw [e2] at hK'
  obtain ⟨v0, h', m', r1, r2, r3, r4⟩ := row_leave R V hB hi hz1 (fun x hx => by obtain ⟨b, _, rfl⟩ := List.mem_map.1 hx; rfl) hown (by rw [hnil, decide_eq_true_eq]) hK'
  exact ⟨v0, v, h', m', rfl, r1, r2, r3, r4⟩
theorem blocks_v {nl : Bool} {l : Nat} {sz : Int} {bs : List Nat} (hl : l = bs.length) (h8 : ∀ b ∈ bs, b < 256) (hb : bs.length ≤ 1048576) (hs : sz < 9223372036854775808) (hK1 : sz < 1 → K (.isl true 0 []) h)
    (hK2 : 1 ≤ sz → ∀ nl', K (.isl nl' (blkN sz.toNat bs).length ((blkN sz.toNat bs).map (iv .u32))) h) : VC Tryd.prog GL (n + 5) 14 [.isl nl l (bs.map (iv .u8)), (.sc (.int .i64 (sz)))] h K := by
  subst hl
  by_cases h1 : sz < 1
  · have hK := hK1 h1
    have e9 := h1
    refine VC_go Tryd.func14 rfl (by decide) Tryd.ntmps14 Tryd.results14 rfl fun Q hq hn => ?_
    repeat (first | (simp (maxSteps := 1000000) only [↓reduceIte, go_sem, e9]) | (simp (maxSteps := 1000000) (disch := first | omega | assumption) only [BB, e9]) | with_reducible refine Gst.now ?_ | with_reducible refine vawp_draw mixed (by kernel_rfl) ?_ | with_reducible first | refine lwV_out ?_ | refine lwV_out0 ?_ | refine lkC_out ?_ | refine And.intro (by omega) ?_ | fail)
    refine hq _ _ ?_
    repeat (first | (simp (maxSteps := 1000000) only [↓reduceIte, go_sem, e9]) | (simp (maxSteps := 1000000) (disch := first | omega | assumption) only [BB, e9]) | with_reducible refine Gst.now ?_ | with_reducible refine vawp_draw mixed (by kernel_rfl) ?_ | with_reducible first | refine lwV_out ?_ | refine lwV_out0 ?_ | refine lkC_out ?_ | refine And.intro (by omega) ?_ | fail)
    exact .now hK
  · obtain ⟨z, rfl⟩ : ∃ z : Nat, sz = z := ⟨sz.toNat, by omega⟩
    have hK := hK2 (by omega)
    rw [Int.toNat_natCast] at hK
    refine VC_fx ?_
    intro W0 C h1 us hG V hrv m args' W R hva
    refine ⟨⟨_, Tryd.func14, rfl, by decide⟩, ?_⟩
    obtain ⟨u1, u2, rfl, q1, q2⟩ := hrv.two
    obtain ⟨x, y, hxy, w1, w2⟩ := hva.two
    obtain rfl : args' = #[x, y] := by rw [← Array.toList_inj]; exact hxy
    obtain rfl := q2.sc_inv.1
    obtain rfl := w2.int_inv
    have e : (bs.map fun b : Nat => Value.int .u8 (b : Int)).map AV.sc = bs.map (iv .u8) := by rw [List.map_map]; rfl
    rw [← e] at q1
    obtain ⟨a, c, rfl, hnl, hc, hn0, ha⟩ := isl_world q1 V R w1
    exact blocks_world h8 hb (by omega) (by omega) hG V R hc hn0 ha (hK _)
theorem blocks_o {j z : Nat} {bs : List Nat} (hj : h j = some (.cells 5 false (bs.map (iv .u8)))) (h8 : ∀ b ∈ bs, b < 256) (hb : bs.length ≤ 1048576) (hz1 : 1 ≤ z) (hz2 : z < 9223372036854775808)
    (hK : K (.isl (decide (rounds bs.length z = 0)) (blkN z bs).length ((blkN z bs).map (iv .u32))) h) : VC Tryd.prog GL (n + 5) 14 [.own j 0 bs.length, (.sc (.int .i64 ((z : Nat))))] h K := by
  refine VC_fx ?_
  intro W0 C h1 us hG V hrv m args' W R hva
  refine ⟨⟨_, Tryd.func14, rfl, by decide⟩, ?_⟩
  obtain ⟨u1, u2, rfl, q1, q2⟩ := hrv.two
  obtain ⟨x, y, hxy, w1, w2⟩ := hva.two
  obtain rfl : args' = #[x, y] := by rw [← Array.toList_inj]; exact hxy
  obtain rfl := q2.sc_inv.1
  obtain rfl := w2.int_inv
  have e : (bs.map fun b : Nat => Value.int .u8 (b : Int)).map AV.sc = bs.map (iv .u8) := by rw [List.map_map]; rfl
  rw [← e] at hj
  obtain ⟨a, c, rfl, hc, hn0, ha⟩ := own_world hj q1 V R w1
  exact blocks_world h8 hb hz1 hz2 hG V R hc hn0 ha hK
theorem blkN_snoc {bs : List Nat} {sz k : Nat} (f : Nat → Nat) : (upto (fun k => k * sz) (k + 1)).map f = (upto (fun k => k * sz) k).map f ++ [f (k * sz)] := by rw [upto_succ, List.map_append]; rfl
theorem rblocks_v {nl : Bool} {l : Nat} {sz : Int} {bs : List Nat} (hl : l = bs.length) (h8 : ∀ b ∈ bs, b < 256) (hb : bs.length ≤ 1048576) (hs : sz < 9223372036854775808) (hs2 : -9223372036854775808 ≤ sz) (hK1 : sz < 1 → K (.isl false 0 []) h)
    (hK2 : 1 ≤ sz → ∀ nl', K (.isl nl' (blkN sz.toNat bs).length ((blkN sz.toNat bs).map (iv .u32))) h) : VC Tryd.prog GL (n + 3) 15 [.isl nl l (bs.map (iv .u8)), (.sc (.int .i64 (sz)))] h K := by
  refine VC_go Tryd.func15 rfl (by decide) Tryd.ntmps15 Tryd.results15 rfl fun Q hq hn => ?_
  subst hl
  repeat (first | (simp (maxSteps := 1000000) only [↓reduceIte, go_sem]) | (simp (maxSteps := 1000000) (disch := first | omega | assumption) only [BB]) | with_reducible refine Gst.now ?_ | with_reducible refine vawp_draw mixed (by kernel_rfl) ?_ | with_reducible first | refine lwV_out ?_ | refine lwV_out0 ?_ | refine lkC_out ?_ | refine And.intro (by omega) ?_ | fail)
  refine vBuildS_o bs28 ?_ ?_ ?_ ?_ ?_
  rfl
  rfl
  rfl
  rfl
  intro j0 hj0
  by_cases h1 : sz < 1
  · have hK := hK1 h1
    have e9 : decide (1 ≤ sz) = false := decide_eq_false (by omega)
    repeat (first | (simp (maxSteps := 1000000) only [↓reduceIte, go_sem, e9]) | (simp (maxSteps := 1000000) (disch := first | omega | assumption) only [BB, e9]) | with_reducible refine Gst.now ?_ | with_reducible refine vawp_draw mixed (by kernel_rfl) ?_ | with_reducible first | refine lwV_out ?_ | refine lwV_out0 ?_ | refine lkC_out ?_ | refine And.intro (by omega) ?_ | fail)
    refine vawp_loop (k := 0) (fun k ρ h2 => ρ 0 = .isl nl bs.length (bs.map (iv .u8)) ∧ ρ 1 = (.sc (.int .i64 (sz))) ∧ ρ 5 = .own j0 0 0 ∧ h2 = hset h j0 (.cells 22 false [])) ?_ ?_
    · repeat (first | (simp (maxSteps := 1000000) only [↓reduceIte, go_sem, e9]) | (simp (maxSteps := 1000000) (disch := first | omega | assumption) only [BB, e9]) | with_reducible refine Gst.now ?_ | with_reducible refine vawp_draw mixed (by kernel_rfl) ?_ | with_reducible first | refine lwV_out ?_ | refine lwV_out0 ?_ | refine lkC_out ?_ | refine And.intro (by omega) ?_ | fail)
    · rintro k ρ h2 ⟨g0, g1, g5, rfl⟩
      repeat (first | (simp (maxSteps := 1000000) only [↓reduceIte, go_sem, e9, g0, g1, g5]) | (simp (maxSteps := 1000000) (disch := first | omega | assumption) only [BB, e9, g0, g1, g5]) | with_reducible refine Gst.now ?_ | with_reducible refine vawp_draw mixed (by kernel_rfl) ?_ | with_reducible first | refine lwV_out ?_ | refine lwV_out0 ?_ | refine lkC_out ?_ | refine And.intro (by omega) ?_ | fail)
      refine hq _ _ ?_
      repeat (first | (simp (maxSteps := 1000000) only [↓reduceIte, go_sem, e9, g0, g1, g5]) | (simp (maxSteps := 1000000) (disch := first | omega | assumption) only [BB, e9, g0, g1, g5]) | with_reducible refine Gst.now ?_ | with_reducible refine vawp_draw mixed (by kernel_rfl) ?_ | with_reducible first | refine lwV_out ?_ | refine lwV_out0 ?_ | refine lkC_out ?_ | refine And.intro (by omega) ?_ | fail)
      exact .iso2 hj0 (.now hK)
  · obtain ⟨z, rfl⟩ : ∃ z : Nat, sz = z := ⟨sz.toNat, by omega⟩
    have hK := hK2 (by omega)
    rw [Int.toNat_natCast] at hK
    have e9 : 1 ≤ z := by omega
    have hrl := fun k => rounds_lt (len := bs.length) (sz := z) (k := k) (by omega)
    repeat (first | (simp (maxSteps := 1000000) only [↓reduceIte, go_sem, e9]) | (simp (maxSteps := 1000000) (disch := first | omega | assumption) only [BB, e9]) | with_reducible refine Gst.now ?_ | with_reducible refine vawp_draw mixed (by kernel_rfl) ?_ | with_reducible first | refine lwV_out ?_ | refine lwV_out0 ?_ | refine lkC_out ?_ | refine And.intro (by omega) ?_ | fail)
    refine vawp_loop (k := rounds bs.length z) (fun k ρ h2 => ∃ i : Nat, k + i = rounds bs.length z ∧ ρ 0 = .isl nl bs.length (bs.map (iv .u8)) ∧ ρ 1 = (.sc (.int .i64 (z))) ∧ ρ 6 = (.sc (.int .i64 ((i * z : Nat)))) ∧ ∃ j, h j = none ∧ ρ 5 = .own j 0 i ∧ h2 = hset h j (.cells 22 false (((upto (fun k => k * z) i).map fun st => (crcU 0#32 ((bs.drop st).take z)).toNat).map (iv .u32)))) ?_ ?_
    · refine ⟨0, by omega, ?_⟩
      repeat (first | (simp (maxSteps := 1000000) only [↓reduceIte, go_sem, e9]) | (simp (maxSteps := 1000000) (disch := first | omega | assumption) only [BB, e9]) | with_reducible refine Gst.now ?_ | with_reducible refine vawp_draw mixed (by kernel_rfl) ?_ | with_reducible first | refine lwV_out ?_ | refine lwV_out0 ?_ | refine lkC_out ?_ | refine And.intro (by omega) ?_ | fail)
      exact ⟨j0, hj0, rfl, rfl⟩
    · rintro k ρ h2 ⟨i, hki, g0, g1, g6, j, hj, g5, rfl⟩
      have hzz : (i + 1) * z = i * z + z := by rw [Nat.add_mul, Nat.one_mul]
      have hr1 := hrl i
      have hr2 := hrl (i + 1)
      have hsn := blkN_snoc (bs := bs) (sz := z) (k := i) (fun st => (crcU 0#32 ((bs.drop st).take z)).toNat)
      have hrb : rounds bs.length z ≤ bs.length := by
        unfold rounds
        rw [Nat.div_le_iff_le_mul_add_pred (by omega)]
        have := Nat.mul_le_mul_right bs.length (show 1 ≤ z by omega)
        omega
      by_cases hlt : i * z < bs.length
      · have e10 := hlt
        have hi := hr1.2 hlt
        have hll : ((upto (fun k => k * z) i).map fun st => (crcU 0#32 ((bs.drop st).take z)).toNat).length = i := by rw [List.length_map, upto_length]
        have h8d : ∀ b ∈ bs.drop (i * z), b < 256 := fun b hb => h8 b (List.mem_of_mem_drop hb)
        have hdl : (bs.drop (i * z)).length = bs.length - i * z := List.length_drop
        by_cases h2 : bs.length - i * z < z
        · have e11 := h2
          have hr : rounds bs.length z = i + 1 := by omega
          have ht : (bs.drop (i * z)).take z = bs.drop (i * z) := List.take_of_length_le (by omega)
          simp only [ht] at hsn
          have hbl : blkN z bs = ((upto (fun k => k * z) i).map fun st => (crcU 0#32 ((bs.drop st).take z)).toNat) ++ [(crcU 0#32 (bs.drop (i * z))).toNat] := by unfold blkN; rw [hr, hsn]
          have e12 : (bs.drop (i * z)).take (bs.length - i * z) = bs.drop (i * z) := List.take_of_length_le (by omega)
          generalize i * z = st at *
          repeat (first | (simp (maxSteps := 1000000) only [↓reduceIte, go_sem, e9, g0, g1, g6, g5, e10, e11, e12]) | (simp (maxSteps := 1000000) (disch := first | omega | assumption) only [BB, e9, g0, g1, g6, g5, e10, e11, e12]) | with_reducible refine Gst.now ?_ | with_reducible refine vawp_draw mixed (by kernel_rfl) ?_ | with_reducible first | refine lwV_out ?_ | refine lwV_out0 ?_ | refine lkC_out ?_ | refine And.intro (by omega) ?_ | fail)
          with_reducible refine call_ok ?_
          refine rsum_v hdl.symm h8d (by omega) ?_
          repeat (first | (simp (maxSteps := 1000000) only [↓reduceIte, go_sem, e9, g0, g1, g6, g5, e10, e11, e12]) | (simp (maxSteps := 1000000) (disch := first | omega | assumption) only [BB, e9, g0, g1, g6, g5, e10, e11, e12]) | with_reducible refine Gst.now ?_ | with_reducible refine vawp_draw mixed (by kernel_rfl) ?_ | with_reducible first | refine lwV_out ?_ | refine lwV_out0 ?_ | refine lkC_out ?_ | refine And.intro (by omega) ?_ | fail)
          refine vBuildS_i bs28 ?_ ?_ ?_ ?_ ?_
          rfl
          rfl
          rfl
          rfl
          repeat (first | (simp (maxSteps := 1000000) only [↓reduceIte, go_sem]) | (simp (maxSteps := 1000000) (disch := first | omega | assumption) only [BB]) | with_reducible refine Gst.now ?_ | with_reducible refine vawp_draw mixed (by kernel_rfl) ?_ | with_reducible first | refine lwV_out ?_ | refine lwV_out0 ?_ | refine lkC_out ?_ | refine And.intro (by omega) ?_ | fail)
          apply vApp_own_isl ap28 (by simp only [go_sem])
          case hv => first | (simp [upto_length]; done) | (simp [upto_length]; omega) | rfl | assumption
          case hj => repeat (first | exact hset_at _ _ _ | assumption | refine (hset_ne _ _ (by first | omega | assumption)).trans ?_ | refine (hdel_ne _ (by first | omega | assumption)).trans ?_ | fail)
          case hl => first | (simp [upto_length]; done) | (simp [upto_length]; omega) | rfl | assumption
          case h1 => first | omega | (simp [upto_length]; omega) | (simp [upto_length]; done)
          case h2 => first | omega | (simp [upto_length]; omega) | (simp [upto_length]; done)
          intro j' hj'
          try simp (disch := first | omega | assumption) only [go_sem, hset_none, hdel_none] at hj'
          try simp (disch := first | omega | assumption) only [hset_none, hdel_none] at hj'
          repeat (first | (simp (maxSteps := 1000000) only [↓reduceIte, go_sem, e9, g0, g1, g6, g5, e10, e11, e12]) | (simp (maxSteps := 1000000) (disch := first | omega | assumption) only [BB, e9, g0, g1, g6, g5, e10, e11, e12]) | with_reducible refine Gst.now ?_ | with_reducible refine vawp_draw mixed (by kernel_rfl) ?_ | with_reducible first | refine lwV_out ?_ | refine lwV_out0 ?_ | refine lkC_out ?_ | refine And.intro (by omega) ?_ | fail)
          refine hq _ _ ?_
          repeat (first | (simp (maxSteps := 1000000) only [↓reduceIte, go_sem, e9, g0, g1, g6, g5, e10, e11, e12]) | (simp (maxSteps := 1000000) (disch := first | omega | assumption) only [BB, e9, g0, g1, g6, g5, e10, e11, e12]) | with_reducible refine Gst.now ?_ | with_reducible refine vawp_draw mixed (by kernel_rfl) ?_ | with_reducible first | refine lwV_out ?_ | refine lwV_out0 ?_ | refine lkC_out ?_ | refine And.intro (by omega) ?_ | fail)
          have hK' := hK false
          rw [hbl, List.map_append, List.length_append, hll] at hK'
          exact .iso2 hj' (.now hK')
        · have e11 := h2
          have hdt : z = ((bs.drop (i * z)).take z).length := by rw [List.length_take]; omega
          have h8t : ∀ b ∈ (bs.drop (i * z)).take z, b < 256 := fun b hb => h8d b (List.mem_of_mem_take hb)
          generalize i * z = st at *
          repeat (first | (simp (maxSteps := 1000000) only [↓reduceIte, go_sem, e9, g0, g1, g6, g5, e10, e11]) | (simp (maxSteps := 1000000) (disch := first | omega | assumption) only [BB, e9, g0, g1, g6, g5, e10, e11]) | with_reducible refine Gst.now ?_ | with_reducible refine vawp_draw mixed (by kernel_rfl) ?_ | with_reducible first | refine lwV_out ?_ | refine lwV_out0 ?_ | refine lkC_out ?_ | refine And.intro (by omega) ?_ | fail)
          with_reducible refine call_ok ?_
          refine rsum_v hdt h8t (by omega) ?_
          repeat (first | (simp (maxSteps := 1000000) only [↓reduceIte, go_sem, e9, g0, g1, g6, g5, e10, e11]) | (simp (maxSteps := 1000000) (disch := first | omega | assumption) only [BB, e9, g0, g1, g6, g5, e10, e11]) | with_reducible refine Gst.now ?_ | with_reducible refine vawp_draw mixed (by kernel_rfl) ?_ | with_reducible first | refine lwV_out ?_ | refine lwV_out0 ?_ | refine lkC_out ?_ | refine And.intro (by omega) ?_ | fail)
          refine vBuildS_i bs28 ?_ ?_ ?_ ?_ ?_
          rfl
          rfl
          rfl
          rfl
          repeat (first | (simp (maxSteps := 1000000) only [↓reduceIte, go_sem]) | (simp (maxSteps := 1000000) (disch := first | omega | assumption) only [BB]) | with_reducible refine Gst.now ?_ | with_reducible refine vawp_draw mixed (by kernel_rfl) ?_ | with_reducible first | refine lwV_out ?_ | refine lwV_out0 ?_ | refine lkC_out ?_ | refine And.intro (by omega) ?_ | fail)
          apply vApp_own_isl ap28 (by simp only [go_sem])
          case hv => first | (simp [upto_length]; done) | (simp [upto_length]; omega) | rfl | assumption
          case hj => repeat (first | exact hset_at _ _ _ | assumption | refine (hset_ne _ _ (by first | omega | assumption)).trans ?_ | refine (hdel_ne _ (by first | omega | assumption)).trans ?_ | fail)
          case hl => first | (simp [upto_length]; done) | (simp [upto_length]; omega) | rfl | assumption
          case h1 => first | omega | (simp [upto_length]; omega) | (simp [upto_length]; done)
          case h2 => first | omega | (simp [upto_length]; omega) | (simp [upto_length]; done)
          intro j' hj'
          try simp (disch := first | omega | assumption) only [go_sem, hset_none, hdel_none] at hj'
          try simp (disch := first | omega | assumption) only [hset_none, hdel_none] at hj'
          repeat (first | (simp (maxSteps := 1000000) only [↓reduceIte, go_sem, e9, g0, g1, g6, g5, e10, e11]) | (simp (maxSteps := 1000000) (disch := first | omega | assumption) only [BB, e9, g0, g1, g6, g5, e10, e11]) | with_reducible refine Gst.now ?_ | with_reducible refine vawp_draw mixed (by kernel_rfl) ?_ | with_reducible first | refine lwV_out ?_ | refine lwV_out0 ?_ | refine lkC_out ?_ | refine And.intro (by omega) ?_ | fail)
          exact ⟨k - 1, by omega, i + 1, by omega, hzz.symm, j', hj', ⟨rfl, rfl⟩, by rw [hsn, List.map_append]; rfl⟩
      · have e10 := hlt
        have hr : rounds bs.length z = i := by omega
        repeat (first | (simp (maxSteps := 1000000) only [↓reduceIte, go_sem, e9, g0, g1, g6, g5, e10]) | (simp (maxSteps := 1000000) (disch := first | omega | assumption) only [BB, e9, g0, g1, g6, g5, e10]) | with_reducible refine Gst.now ?_ | with_reducible refine vawp_draw mixed (by kernel_rfl) ?_ | with_reducible first | refine lwV_out ?_ | refine lwV_out0 ?_ | refine lkC_out ?_ | refine And.intro (by omega) ?_ | fail)
        refine hq _ _ ?_
        repeat (first | (simp (maxSteps := 1000000) only [↓reduceIte, go_sem, e9, g0, g1, g6, g5, e10]) | (simp (maxSteps := 1000000) (disch := first | omega | assumption) only [BB, e9, g0, g1, g6, g5, e10]) | with_reducible refine Gst.now ?_ | with_reducible refine vawp_draw mixed (by kernel_rfl) ?_ | with_reducible first | refine lwV_out ?_ | refine lwV_out0 ?_ | refine lkC_out ?_ | refine And.intro (by omega) ?_ | fail)
        have hbl : blkN z bs = ((upto (fun k => k * z) i).map fun st => (crcU 0#32 ((bs.drop st).take z)).toNat) := by unfold blkN; rw [hr]
        rw [← hbl, ← hr, ← blkN_len]
        exact .iso2 hj (.now (hK false))
end
end Go.Proofs.YtbmidddpddiopaaDoor.VBlk
