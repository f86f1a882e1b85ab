/- the law package's own example. -/
import Derived.Test.YtbcfpfjdleplhaaProg
import Derived.Test.YtbcfpfjdleplhaaAbObj
import Derived.Test.YtbcfpfjdleplhaaAbLittle
import Derived.Test.YtbcfpfjdleplhaaAbLittle2
import Derived.KernelRfl
import Derived.OpenShut
import Derived.Laws.BitsAllLaws
set_option linter.unusedVariables false
set_option linter.unusedSimpArgs false
set_option maxRecDepth 100000
set_option maxHeartbeats 4000000
namespace Go.Proofs.Ytbcfpfjdleplhaa.Little3
open Go.RowKit Go.Proofs.AbM Go.Proofs.Ytbcfpfjdleplhaa.Little Go.Proofs.Ytbcfpfjdleplhaa.Little2
attribute [local go_sem] awp_skip_eq awp_seq_eq awp_region_eq awp_cond_ite awp_block_eq awp_exit_eq awp_ret_eq thenA_lk thenA_ret thenA_exit inBlockA_normal inBlockA_ret inBlockA_exit bodyR_ret bodyR_normal resK_nil resK_tmp resK_cell oneOf_one oneOf_nil oneOf_more callee_eq List.toList_toArray fm_nil fm_cons wops_nil wops_n wops_s gsN_eq wop dstOk_some dstOk_none evo_tmp evo_const evo_func evo_global okO_tmp okO_const okO_func okO_global okOs_nil okOs_cons upd_at initF_nil initF_cons clo2_int clo3_int clo4_int clo2_bool clo3_bool clo4_bool clo3_string clo4_string clo3_snil clo4_snil clo3_pnil clo4_pnil wBin_add wBin_sub wBin_mul wBin_quo wBin_rem wBin_and wBin_or wBin_xor wBin_andNot wBin_eql wBin_neq wBin_lss wBin_leq wBin_gtr wBin_geq wBin_shr_i8 wBin_shl_i8 wBin_shr_i16 wBin_shl_i16 wBin_shr_i32 wBin_shl_i32 wBin_shr_i64 wBin_shl_i64 wBin_shr_u8 wBin_shl_u8 wBin_shr_u16 wBin_shl_u16 wBin_shr_u32 wBin_shl_u32 wBin_shr_u64 wBin_shl_u64 wSc_not wSc_neg wSc_com wSc_min2 wSc_max2 wConv_num intK_int Option.isSome_some List.map_toArray List.map_cons List.map_nil List.nil_append List.cons_append List.append_nil true_and and_true if_true if_false ite_true ite_false forall_eq' forall_eq exists_eq_left exists_eq_left' exists_eq' Value.bool.injEq Value.int.injEq Value.pointer.injEq Value.slice.injEq Value.tuple.injEq Value.agg.injEq Option.some.injEq decide_eq_true_eq decide_eq_false_iff_not Nat.reduceEqDiff Nat.reduceLT Nat.reduceSub reduceIte Int.reduceLE Int.reduceLT Int.reduceToNat Int.reduceNeg Int.reduceEq Int.reduceNe Int.cast_ofNat_Int Nat.reduceMul Nat.reduceAdd Int.reduceSub Int.reducePow Nat.reducePow pickO_nil pickO_cons Option.isSome_some wField_eq wLoad_f wStore_int wStore_bool wStore_slice wStore_ptr wStore_string rd_blk blkO_set blkO_new blkO_push List.getElem?_toArray List.getElem?_cons_zero List.getElem?_cons_succ List.set_cons_zero List.set_cons_succ List.set_set List.length_cons List.length_nil Option.bind_some one_slice one_int one_bool one_ptr one_string true_or or_true Bool.not_true Bool.not_false Bool.not_eq_true Bool.false_eq_true false_implies true_implies implies_true Nat.zero_add wSc_not wLen_sl wLen_str isSl_sl isStr_str isB_t isB_f Bool.not_eq_true' isBl_b pk_t pk_f pk_b Bool.true_eq_false Bool.cond_true Bool.cond_false Option.map_some Option.map_none Option.toList_some Option.toList_none Option.isNone_some Option.isNone_none lw_int lw_bool lw_ptr lw_slice lw_string lw_agg lw_tuple lw_func lw_none lw_undef Int.reduceBEq Int.reduceBNe beq_self_eq_true wSc_pb wSc_pi
attribute [local go_sem high] wops_pk wops_mv wops_as wops_smv
attribute [local go_sem] Try.underlying23 Try.underlying5 Try.underlying22 Try.underlying3 agB agBs agI agb szI szB szb offR0 offR1 offR2
theorem alive_ac {n : Nat} {W0 : World} {h : Hp} {K : Value → Hp → Prop} (hK : ∀ h', Ext h h' → K (.bool true) h') : AC Try.prog W0 (n + 4) 6 [] h K := by
  refine AC_go Try.func6 rfl (by decide) Try.ntmps6 Try.results6 rfl fun Q hq _ => ?_
  repeat (simp only [↓reduceIte, go_sem]; with_reducible refine lk_out ?_)
  try simp only [↓reduceIte, go_sem]
  refine wBuildS_ones stB [_, _, _, _] rfl rfl (by omega) (by simp [Value.oneCell']) ?_
  with_reducible first | refine lw_out ?_ | refine lw_out0 ?_ | skip
  try simp only [↓reduceIte, go_sem]
  refine read_ac ?_
  obtain ⟨h1, hh1⟩ : ∃ x, x = h ++ [.cells 5 [.int .u8 2, .int .u8 1, .int .u8 9, .int .u8 8]] := ⟨_, rfl⟩
  have hsl : SlI W0 h1 .u8 (.slice (some ⟨W0.heap.size + h.length, 0, none⟩) 4 4) [2, 1, 9, 8] := by rw [hh1]; exact SlG.new (f := Value.int .u8) rfl
  have hE1 : Ext h h1 := by rw [hh1]; exact Ext.push _ _
  have hj : h1.length = h.length + 1 := by rw [hh1]; simp
  rw [← hh1]
  clear hh1
  generalize hsv : Value.slice (some ⟨W0.heap.size + h.length, 0, none⟩) 4 4 = s at *
  have hoff : offS (· = h1.length) W0 s := by
    intro j o n c he
    rw [← hsv] at he
    injection he with he
    injection he with he
    injection he with he
    show ¬ j = h1.length
    omega
  obtain ⟨h2, hh2⟩ : ∃ x, x = h1 ++ [.cells 46 [s, .int .i64 0, .bool false]] := ⟨_, rfl⟩
  have hr2 : Rdr W0 h2 h1.length s (0 : Nat) false := by rw [hh2]; exact blkO_new
  have hsl2 : SlI W0 h2 .u8 s [2, 1, 9, 8] := by rw [hh2]; exact hsl.ext (Ext.push _ _)
  have hE2 : Ext h h2 := by rw [hh2]; exact hE1.trans (Ext.push _ _)
  rw [← hh2]
  clear hh2 hsl hE1 hsv
  generalize hjv : h1.length = j at *
  have hjge : ∀ i, i = j → h.length ≤ i := by intro i hi; omega
  have hB : Bytes [2, 1, 9, 8] := by unfold Bytes; decide
  unfold rdrP
  with_reducible first | refine lw_out ?_ | refine lw_out0 ?_ | skip
  try simp only [↓reduceIte, go_sem]
  with_reducible refine lk_out ?_
  try simp only [↓reduceIte, go_sem]
  refine wBin_pnil Try.underlying32 ?_
  with_reducible first | refine lw_out ?_ | refine lw_out0 ?_ | skip
  try simp only [↓reduceIte, go_sem]
  with_reducible refine lk_out ?_
  repeat (simp only [↓reduceIte, go_sem]; with_reducible refine lk_out ?_)
  try simp only [↓reduceIte, go_sem]
  refine num_ac hr2 hsl2 hB hoff (by decide) (by decide) fun h3 hk3 hr3 hsl3 => ?_
  have e3 : rdBytes [2, 1, 9, 8] 0 false (hs 2 : Nat) = ([2, 1], 2, false) := by decide
  have e3' : ((G ([2, 1].take 8) : Nat) : Int) = 258 := by decide
  simp only [e3, e3'] at hr3 ⊢
  have hE3 := hE2.up hk3 hjge
  with_reducible first | refine lw_out ?_ | refine lw_out0 ?_ | skip
  try simp only [↓reduceIte, go_sem]
  refine left_ac hr3 hsl3 ?_
  have e4 : IntKind.i64.wrap (([2, 1, 9, 8] : List Int).length - (2 : Nat)) = 2 := by decide
  simp only [e4]
  with_reducible first | refine lw_out ?_ | refine lw_out0 ?_ | skip
  try simp only [↓reduceIte, go_sem]
  with_reducible refine lk_out ?_
  repeat (simp only [↓reduceIte, go_sem]; with_reducible refine lk_out ?_)
  try simp only [↓reduceIte, go_sem]
  refine bytes_ac hr3 hsl3 hoff (by decide) (by decide) fun v5 h5 hk5 hF5 hr5 hsl5 => ?_
  have e5 : rdBytes [2, 1, 9, 8] 2 false 3 = ([], 2, true) := by decide
  rw [e5] at hr5 hF5
  have hE5 := hE3.up hk5 hjge
  have hv5 : ∃ p c, v5 = .slice p 0 c := by
    obtain ⟨p, c, hh⟩ := (Own.sl1 hF5.1).len
    exact ⟨p, c, hh⟩
  obtain ⟨p5, c5, rfl⟩ := hv5
  with_reducible first | refine lw_out ?_ | refine lw_out0 ?_ | skip
  try simp only [↓reduceIte, go_sem]
  with_reducible refine lk_out ?_
  repeat (simp only [↓reduceIte, go_sem]; with_reducible refine lk_out ?_)
  try simp only [↓reduceIte, go_sem]
  refine put_ac (x := 258) fun v6 h6 hE6 hO6 _ => ?_
  have e6 : P (hs 2) 258 = [2, 1] := by decide
  rw [e6] at hO6
  with_reducible first | refine lw_out ?_ | refine lw_out0 ?_ | skip
  try simp only [↓reduceIte, go_sem]
  refine wConv_str Try.underlying23 Try.underlying5 Try.underlying9 (Own.sl1 hO6) (by simp) ?_
  have e6' : ((strN [2, 1]).toList == (ByteArray.mk #[2, 1]).toList) = true := by decide +kernel
  with_reducible refine lw_out ?_
  simp only [go_sem]
  rw [wBin_seq, e6']
  with_reducible first | refine lw_out ?_ | refine lw_out0 ?_ | skip
  try simp only [↓reduceIte, go_sem]
  refine wBuildS_ones stB [_, _] rfl rfl (by omega) (by simp [Value.oneCell']) ?_
  with_reducible first | refine lw_out ?_ | refine lw_out0 ?_ | skip
  try simp only [↓reduceIte, go_sem]
  refine get_ac (l := [2, 1]) (SlG.new (f := Value.int .u8) rfl) (by unfold Bytes; decide) ?_
  have hE7 := (hE5.trans hE6).trans (Ext.push h6 (.cells 5 [.int .u8 2, .int .u8 1]))
  have hr7 : Rdr W0 (h6 ++ [.cells 5 [.int .u8 2, .int .u8 1]]) j s 2 true := blkO_kp (S := fun _ => False) (.of_ext (hE6.trans (Ext.push _ _))) (fun h => h) hr5
  have hsl7 := hsl5.ext (hE6.trans (Ext.push h6 (.cells 5 [.int .u8 2, .int .u8 1])))
  try simp only [List.map_cons, List.map_nil]
  generalize h6 ++ [Blk.cells 5 [.int .u8 2, .int .u8 1]] = h7 at *
  rw [e3']
  with_reducible first | refine lw_out ?_ | refine lw_out0 ?_ | skip
  try simp only [↓reduceIte, go_sem]
  refine fits_ac (x := 255) (size := 1) ?_
  have e8 : decide ((8 : Int) ≤ 1 ∨ 255 / 2 ^ (8 * hs 1) = 0) = true := by decide
  rw [e8]
  with_reducible first | refine lw_out ?_ | refine lw_out0 ?_ | skip
  try simp only [↓reduceIte, go_sem, e3']
  refine fits_ac (x := 256) (size := 1) ?_
  have e9 : decide ((8 : Int) ≤ 1 ∨ 256 / 2 ^ (8 * hs 1) = 0) = false := by decide
  rw [e9]
  with_reducible first | refine lw_out ?_ | refine lw_out0 ?_ | skip
  try simp only [↓reduceIte, go_sem, e3']
  refine short_ac hr7 ?_
  with_reducible first | refine lw_out ?_ | refine lw_out0 ?_ | skip
  try simp only [↓reduceIte, go_sem]
  refine at_ac hr7 ?_
  with_reducible first | refine lw_out ?_ | refine lw_out0 ?_ | skip
  try simp only [↓reduceIte, go_sem]
  refine rest_ac hr7 hsl7 hoff (by decide) (by decide) fun v10 h10 hk10 hF10 hr10 hsl10 => ?_
  have e10 : (rdBytes [2, 1, 9, 8] 2 true (([2, 1, 9, 8] : List Int).length - (2 : Nat))).1 = [] := by decide
  rw [e10] at hF10
  obtain ⟨p10, c10, rfl⟩ : ∃ p c, v10 = .slice p 0 c := by
    obtain ⟨p, c, hh⟩ := (Own.sl1 hF10.1).len
    exact ⟨p, c, hh⟩
  with_reducible first | refine lw_out ?_ | refine lw_out0 ?_ | skip
  try simp only [↓reduceIte, go_sem]
  with_reducible refine lk_out ?_
  with_reducible first | refine lw_out ?_ | refine lw_out0 ?_ | skip
  try simp only [↓reduceIte, go_sem]
  refine hq _ _ ?_
  simp only [↓reduceIte, go_sem]
  exact hK _ (hE7.up hk10 hjge)
end Go.Proofs.Ytbcfpfjdleplhaa.Little3
