/- the statement on rows of numbers. -/
import Derived.Test.YtbcfpfjdleplhaaProg
import Derived.Test.YtbcfpfjdleplhaaAbObj
import Derived.Test.YtbcfpfjdleplhaaAbLittle
import Derived.Test.YtbcfpfjdleplhaaAbLittle2
import Derived.Test.YtbcfpfjdleplhaaAbLittle3
import Derived.KernelRfl
import Derived.OpenShut
import Derived.Laws.BitsAllLaws
set_option linter.unusedVariables false
set_option linter.unusedSimpArgs false
set_option maxRecDepth 100000
set_option maxHeartbeats 4000000
namespace Go.Proofs.Ytbcfpfjdleplhaa.Little4
open Go.RowKit Go.Proofs.AbM Go.Proofs.Ytbcfpfjdleplhaa.Little Go.Proofs.Ytbcfpfjdleplhaa.Little2 Go.Proofs.Ytbcfpfjdleplhaa.Little3
attribute [local go_sem] awp_skip_eq awp_seq_eq awp_region_eq awp_cond_ite awp_block_eq awp_exit_eq awp_ret_eq thenA_lk thenA_ret thenA_exit inBlockA_normal inBlockA_ret inBlockA_exit bodyR_ret bodyR_normal resK_nil resK_tmp resK_cell oneOf_one oneOf_nil oneOf_more callee_eq List.toList_toArray fm_nil fm_cons wops_nil wops_n wops_s gsN_eq wop dstOk_some dstOk_none evo_tmp evo_const evo_func evo_global okO_tmp okO_const okO_func okO_global okOs_nil okOs_cons upd_at initF_nil initF_cons clo2_int clo3_int clo4_int clo2_bool clo3_bool clo4_bool clo3_string clo4_string clo3_snil clo4_snil clo3_pnil clo4_pnil wBin_add wBin_sub wBin_mul wBin_quo wBin_rem wBin_and wBin_or wBin_xor wBin_andNot wBin_eql wBin_neq wBin_lss wBin_leq wBin_gtr wBin_geq wBin_shr_i8 wBin_shl_i8 wBin_shr_i16 wBin_shl_i16 wBin_shr_i32 wBin_shl_i32 wBin_shr_i64 wBin_shl_i64 wBin_shr_u8 wBin_shl_u8 wBin_shr_u16 wBin_shl_u16 wBin_shr_u32 wBin_shl_u32 wBin_shr_u64 wBin_shl_u64 wSc_not wSc_neg wSc_com wSc_min2 wSc_max2 wConv_num intK_int Option.isSome_some List.map_toArray List.map_cons List.map_nil List.nil_append List.cons_append List.append_nil true_and and_true if_true if_false ite_true ite_false forall_eq' forall_eq exists_eq_left exists_eq_left' exists_eq' Value.bool.injEq Value.int.injEq Value.pointer.injEq Value.slice.injEq Value.tuple.injEq Value.agg.injEq Option.some.injEq decide_eq_true_eq decide_eq_false_iff_not Nat.reduceEqDiff Nat.reduceLT Nat.reduceSub reduceIte Int.reduceLE Int.reduceLT Int.reduceToNat Int.reduceNeg Int.reduceEq Int.reduceNe Int.cast_ofNat_Int Nat.reduceMul Nat.reduceAdd Int.reduceSub Int.reducePow Nat.reducePow pickO_nil pickO_cons Option.isSome_some wField_eq wLoad_f wStore_int wStore_bool wStore_slice wStore_ptr wStore_string rd_blk blkO_set blkO_new blkO_push List.getElem?_toArray List.getElem?_cons_zero List.getElem?_cons_succ List.set_cons_zero List.set_cons_succ List.set_set List.length_cons List.length_nil Option.bind_some one_slice one_int one_bool one_ptr one_string true_or or_true Bool.not_true Bool.not_false Bool.not_eq_true Bool.false_eq_true false_implies true_implies implies_true Nat.zero_add wSc_not wLen_sl wLen_str isSl_sl isStr_str isB_t isB_f Bool.not_eq_true' isBl_b pk_t pk_f pk_b Bool.true_eq_false Bool.cond_true Bool.cond_false Option.map_some Option.map_none Option.toList_some Option.toList_none Option.isNone_some Option.isNone_none lw_int lw_bool lw_ptr lw_slice lw_string lw_agg lw_tuple lw_func lw_none lw_undef Int.reduceBEq Int.reduceBNe beq_self_eq_true wSc_pb wSc_pi
attribute [local go_sem high] wops_pk wops_mv wops_as wops_smv
attribute [local go_sem] Try.underlying23 Try.underlying5 Try.underlying22 Try.underlying3 agB agBs agI agb szI szB szb offR0 offR1 offR2
theorem und_u64s : Try.prog.underlying 30 = some (.slice 22) := by kernel_rfl
theorem und_ints : Try.prog.underlying 31 = some (.slice 3) := by kernel_rfl
theorem szU : szO Try.prog 22 = some 1 := by kernel_rfl
theorem agU : isAggO Try.prog 22 = some false := by kernel_rfl
attribute [local go_sem] und_u64s und_ints szU agU
def rowsTo (ns ss : List Int) : Nat → List Int
  | 0 => []
  | i + 1 => rowsTo ns ss i ++ P (hs (ss.getD i 0)) (ns.getD i 0).toNat
theorem rowsTo_len (ns ss : List Int) : ∀ i, (rowsTo ns ss i).length ≤ 8 * i
  | 0 => by simp [rowsTo]
  | i + 1 => by
    have := rowsTo_len ns ss i
    have h8 := hs_le (ss.getD i 0)
    rw [rowsTo, List.length_append, P_length]; omega
theorem rowsTo_bytes (ns ss : List Int) : ∀ i, Bytes (rowsTo ns ss i)
  | 0 => fun x hx => by simp [rowsTo] at hx
  | i + 1 => (rowsTo_bytes ns ss i).append (P_bytes _ _)
theorem rowsTo_pre (ns ss : List Int) (i : Nat) : ∀ n, i ≤ n → ∃ t, rowsTo ns ss n = rowsTo ns ss i ++ t
  | 0, h => ⟨[], by have : i = 0 := by omega
                    subst this; simp⟩
  | n + 1, h => by
    by_cases hi : i = n + 1
    · subst hi; exact ⟨[], by simp⟩
    · obtain ⟨t, ht⟩ := rowsTo_pre ns ss i n (by omega)
      exact ⟨t ++ P (hs (ss.getD n 0)) (ns.getD n 0).toNat, by rw [rowsTo, ht, List.append_assoc]⟩
theorem and_low {x k : Nat} (hk : k < 8) (hx : x < 18446744073709551616) : bits .and .u64 (x : Int) (IntKind.u64.wrap (IntKind.u64.wrap (1 * 2 ^ ((8 * k : Nat) : Int).toNat) - 1)) = ((x % 256 ^ k : Nat) : Int) := by
  have h2 : (2 : Int) ^ ((8 * k : Nat) : Int).toNat = ((2 ^ (8 * k) : Nat) : Int) := by rw [Int.toNat_natCast]; simp
  have hle : 2 ^ (8 * k) ≤ 2 ^ 56 := Nat.pow_le_pow_right (by omega) (by omega)
  have hp : 0 < 2 ^ (8 * k) := Nat.pow_pos (by omega)
  have h256 : 256 ^ k = 2 ^ (8 * k) := by rw [Nat.pow_mul]
  rw [h2, h256]
  have h56 : (2 : Nat) ^ 56 = 72057594037927936 := by decide
  rw [h56] at hle
  have hand := Nat.and_two_pow_sub_one_eq_mod x (8 * k)
  generalize 2 ^ (8 * k) = M at *
  rw [Int.one_mul, wraps_u64 (M : Int) (by omega) (by show (M : Int) < 18446744073709551616; omega), wraps_u64 ((M : Int) - 1) (by omega) (by show (M : Int) - 1 < 18446744073709551616; omega)]
  rw [show ((M : Int) - 1) = ((M - 1 : Nat) : Int) by omega, Go.u64_and_nat x (M - 1) hx (by omega), hand]
theorem rows_ac {n : Nat} {W0 : World} {v w : Value} {ns ss : List Int} (hv : ∀ h, SlI W0 h .u64 v ns) (hw : ∀ h, SlI W0 h .i64 w ss) (hns : ∀ x ∈ ns, (Lit.int .u64 x).wf = true) (hln : ns.length ≤ 140737488355328) (hls : ss.length ≤ 140737488355328) : AC Try.prog W0 (n + 5) 4 [v, w] [] (fun v _ => v = .bool true) := by
  refine AC_go Try.func4 rfl (by decide) Try.ntmps4 Try.results4 rfl fun Q hq _ => ?_
  obtain ⟨p, c, rfl⟩ := (hv []).len
  obtain ⟨q, d, rfl⟩ := (hw []).len
  repeat (simp only [↓reduceIte, go_sem]; with_reducible refine lk_out ?_)
  try simp only [↓reduceIte, go_sem]
  refine alive_ac fun h0 hE0 => ?_
  clear hE0
  with_reducible first | refine lw_out ?_ | refine lw_out0 ?_ | skip
  try simp only [↓reduceIte, go_sem]
  with_reducible refine lk_out ?_
  repeat (simp only [↓reduceIte, go_sem]; with_reducible refine lk_out ?_)
  by_cases hcond : ¬ (ns.length ≤ 40 ∧ ns.length ≤ ss.length)
  · by_cases h40 : 40 < (ns.length : Int)
    · have e1 : decide ((ns.length : Int) > 40) = true := decide_eq_true h40
      repeat (simp only [↓reduceIte, go_sem, e1]; with_reducible refine lk_out ?_)
      with_reducible first | refine lw_out ?_ | refine lw_out0 ?_ | skip
      try simp only [↓reduceIte, go_sem]
      refine hq _ _ ?_
      simp only [↓reduceIte, go_sem]
    · have e1 : decide ((ns.length : Int) > 40) = false := decide_eq_false h40
      have e2 : decide ((ss.length : Int) < ns.length) = true := decide_eq_true (by omega)
      repeat (simp only [↓reduceIte, go_sem, e1, e2]; with_reducible refine lk_out ?_)
      with_reducible first | refine lw_out ?_ | refine lw_out0 ?_ | skip
      try simp only [↓reduceIte, go_sem]
      refine hq _ _ ?_
      simp only [↓reduceIte, go_sem]
  obtain ⟨h40, hle⟩ := Decidable.not_not.1 hcond
  have e1 : decide ((ns.length : Int) > 40) = false := decide_eq_false (by omega)
  have e2 : decide ((ss.length : Int) < ns.length) = false := decide_eq_false (by omega)
  repeat (simp only [↓reduceIte, go_sem, e1, e2]; with_reducible refine lk_out ?_)
  try simp only [↓reduceIte, go_sem, e1, e2]
  refine wBuildS_ones stB [] rfl rfl (by omega) (by simp) ?_
  with_reducible first | refine lw_out ?_ | refine lw_out0 ?_ | skip
  try simp only [↓reduceIte, go_sem]
  with_reducible refine lk_out ?_
  repeat (simp only [↓reduceIte, go_sem]; with_reducible refine lk_out ?_)
  try simp only [↓reduceIte, go_sem]
  refine awp_loop (k := ns.length) (fun k ρ h1 => ∃ i : Nat, k + i = ns.length ∧ ρ 0 = .slice p ns.length c ∧ ρ 1 = .slice q ss.length d ∧ ρ 26 = .slice p ns.length c ∧ ρ 27 = .int .i64 ns.length ∧ ρ 28 = .int .i64 i ∧ Ext h0 h1 ∧ (∀ j, ownAt W0 (ρ 5) j → h0.length ≤ j) ∧ Own W0 h1 5 1 (ρ 5) (rowsTo ns ss i).length ((rowsTo ns ss i).map (Value.int .u8))) ?_ ?_
  · refine ⟨0, rfl, ?_⟩
    with_reducible first | refine lw_out ?_ | refine lw_out0 ?_ | skip
    try simp only [↓reduceIte, go_sem]
    refine ⟨Ext.push _ _, ?_, .blk (j := h0.length) (by simp [rowsTo]) rfl⟩
    rintro j ⟨_, _, he⟩
    injection he with he; injection he with he; injection he with he; omega
  · rintro k ρ h1 ⟨i, hki, g0, g1, g26, g27, g28, hE1, hj, hO⟩
    repeat (simp only [↓reduceIte, go_sem, g27, g28]; with_reducible refine lk_out ?_)
    try simp only [↓reduceIte, go_sem, g27, g28]
    split
    · rename_i hlt
      have hi : i < ns.length := by omega
      have his : i < ss.length := by omega
      have hx := bounds_u64 (hns _ (List.getElem_mem hi))
      obtain ⟨x, hx'⟩ : ∃ x : Nat, ns[i] = (x : Int) := ⟨ns[i].toNat, by omega⟩
      with_reducible refine lk_out ?_
      repeat (simp only [↓reduceIte, go_sem, g26, g28]; with_reducible refine lk_out ?_)
      try simp only [↓reduceIte, go_sem, g26, g28]
      refine wIxAddr_sl und_u64s szU (hv _) hi fun ad hr => ?_
      rw [hx'] at hr
      with_reducible first | refine lw_out ?_ | refine lw_out0 ?_ | skip
      try simp only [↓reduceIte, go_sem, hr]
      try simp only [↓reduceIte, go_sem, g26, g28]
      with_reducible refine lk_out ?_
      try simp only [↓reduceIte, go_sem, g1]
      refine wIxAddr_sl und_ints szI (hw _) his fun ad2 hr2 => ?_
      with_reducible first | refine lw_out ?_ | refine lw_out0 ?_ | skip
      try simp only [↓reduceIte, go_sem, hr2]
      refine put_ac (x := x) fun v3 h3 hE3 hO3 hj3 => ?_
      have hl3 := rowsTo_len ns ss i
      have h8 := hs_le ss[i]
      with_reducible first | refine lw_out ?_ | refine lw_out0 ?_ | skip
      try simp only [↓reduceIte, go_sem]
      have hO' := hO.ext hE3
      refine wAppend_own stB hO' (newsO_sl (xs := P (hs ss[i]) x) (f := Value.int .u8) Try.underlying23 (Own.sl1 hO3)) (by rw [P_length]; omega) (by rw [P_length]; omega) fun v4 h4 hO4 hE4 hj4 _ _ => ?_
      with_reducible first | refine lw_out ?_ | refine lw_out0 ?_ | skip
      try simp only [↓reduceIte, go_sem]
      with_reducible refine lk_out ?_
      repeat (simp only [↓reduceIte, go_sem, g28]; with_reducible refine lk_out ?_)
      refine ⟨k - 1, by omega, i + 1, by omega, ?_⟩
      with_reducible first | refine lw_out ?_ | refine lw_out0 ?_ | skip
      try simp only [↓reduceIte, go_sem]
      have hget : ss.getD i 0 = ss[i] := by rw [List.getD_eq_getElem?_getD, List.getElem?_eq_getElem his]; rfl
      have hgetn : (ns.getD i 0).toNat = x := by rw [List.getD_eq_getElem?_getD, List.getElem?_eq_getElem hi]; simp [hx']
      have hrow : rowsTo ns ss (i + 1) = rowsTo ns ss i ++ P (hs ss[i]) x := by rw [rowsTo, hget, hgetn]
      refine ⟨g0, g1, g26, g27, by rw [wrap_i64 (by omega) (by omega)]; rfl, hE4 h0 (hE1.trans hE3) hj, fun j ho => ?_, ?_⟩
      · have := hj4 j ho
        have := hE3.length
        have := hE1.length
        omega
      · rw [hrow, List.length_append, List.map_append]; exact hO4
    · rename_i hge
      have hi : i = ns.length := by omega
      subst hi
      with_reducible refine lk_out ?_
      have hall := rowsTo_len ns ss ns.length
      have hBall := rowsTo_bytes ns ss ns.length
      obtain ⟨L, hL⟩ : ∃ L, L = rowsTo ns ss ns.length := ⟨_, rfl⟩
      have hsl1 : SlI W0 h1 .u8 (ρ 5) L := by rw [hL]; exact Own.sl1 hO
      rw [← hL] at hall hBall
      obtain ⟨pa, ca, hA⟩ := hsl1.len
      rw [hA] at hsl1 hj
      have hold : ∀ j o n c, Value.slice pa L.length ca = .slice (some ⟨W0.heap.size + j, o, none⟩) n c → j < h1.length := by
        intro j o n c he
        rw [← hA] at he
        rw [← hL] at hO
        generalize ρ 5 = z at hO he
        generalize L.length = ln at hO
        generalize L.map (Value.int .u8) = cs at hO
        cases hO with
        | nil => cases he
        | blk hh hc =>
          injection he with he
          injection he with he
          injection he with he
          have := (List.getElem?_eq_some_iff.1 hh).1
          omega
      clear hO hE1
      repeat (simp only [↓reduceIte, go_sem, hA]; with_reducible refine lk_out ?_)
      try simp only [↓reduceIte, go_sem, hA]
      refine read_ac ?_
      obtain ⟨h2, hh2⟩ : ∃ x, x = h1 ++ [.cells 46 [.slice pa L.length ca, .int .i64 0, .bool false]] := ⟨_, rfl⟩
      have hr2 : Rdr W0 h2 h1.length (.slice pa L.length ca) (0 : Nat) false := by rw [hh2]; exact blkO_new
      have hsl2 : SlI W0 h2 .u8 (.slice pa L.length ca) L := by rw [hh2]; exact hsl1.ext (Ext.push _ _)
      have hE2 : Ext h1 h2 := by rw [hh2]; exact Ext.push _ _
      have hlt2 : h1.length < h2.length := by rw [hh2]; simp
      rw [← hh2]
      have hoff : offS (· = h1.length) W0 (.slice pa L.length ca) := fun j o n c he hh => by have := hold j o n c he; omega
      have hv2 : Kp (· = h1.length) h1 h2 := .of_ext hE2
      clear hh2 hE2
      generalize hjv : h1.length = j at *
      with_reducible first | refine lw_out ?_ | refine lw_out0 ?_ | skip
      try simp only [↓reduceIte, go_sem]
      with_reducible refine lk_out ?_
      repeat (simp only [↓reduceIte, go_sem, g0]; with_reducible refine lk_out ?_)
      try simp only [↓reduceIte, go_sem, g0]
      refine awp_loop (k := ns.length) (fun k ρ' h1' => ∃ i : Nat, k + i = ns.length ∧ ρ' 1 = .slice q ss.length d ∧ ρ' 5 = .slice pa L.length ca ∧ ρ' 8 = rdrP W0 j ∧ ρ' 44 = .slice p ns.length c ∧ ρ' 45 = .int .i64 ns.length ∧ ρ' 46 = .int .i64 i ∧ Kp (· = j) h1 h1' ∧ Rdr W0 h1' j (.slice pa L.length ca) ((rowsTo ns ss i).length : Nat) false ∧ SlI W0 h1' .u8 (.slice pa L.length ca) L) ?_ ?_
      · refine ⟨0, rfl, ?_⟩
        with_reducible first | refine lw_out ?_ | refine lw_out0 ?_ | skip
        try simp only [↓reduceIte, go_sem, g1, hA]
        refine ⟨?_, hr2, hsl2⟩
        exact hv2
      · rintro k' ρ' h3 ⟨i, hki', f1, f5, f8, f44, f45, f46, hk3, hr3, hsl3⟩
        repeat (simp only [↓reduceIte, go_sem, f45, f46]; with_reducible refine lk_out ?_)
        try simp only [↓reduceIte, go_sem, f45, f46]
        split
        · rename_i hlt
          have hi : i < ns.length := by omega
          have his : i < ss.length := by omega
          have hx := bounds_u64 (hns _ (List.getElem_mem hi))
          obtain ⟨x, hx'⟩ : ∃ x : Nat, ns[i] = (x : Int) := ⟨ns[i].toNat, by omega⟩
          have hxl : x < 18446744073709551616 := by omega
          have hget : ss.getD i 0 = ss[i] := by rw [List.getD_eq_getElem?_getD, List.getElem?_eq_getElem his]; rfl
          have hgetn : (ns.getD i 0).toNat = x := by rw [List.getD_eq_getElem?_getD, List.getElem?_eq_getElem hi]; simp [hx']
          have hrow : rowsTo ns ss (i + 1) = rowsTo ns ss i ++ P (hs ss[i]) x := by rw [rowsTo, hget, hgetn]
          obtain ⟨t, ht⟩ := rowsTo_pre ns ss (i + 1) ns.length (by omega)
          rw [← hL, hrow] at ht
          have h8 := hs_le ss[i]
          have hlen : (rowsTo ns ss i).length ≤ L.length := by rw [ht, List.length_append, List.length_append]; omega
          have hlen2 : (rowsTo ns ss i).length + hs ss[i] ≤ L.length := by rw [ht, List.length_append, List.length_append, P_length]; omega
          have hrd : rdBytes L (rowsTo ns ss i).length false (hs ss[i]) = (P (hs ss[i]) x, (rowsTo ns ss i).length + hs ss[i], false) := by
            unfold rdBytes
            rw [if_neg (by simp; omega), Int.toNat_natCast]
            congr 1
            rw [ht, List.append_assoc, List.drop_left, List.take_append_of_le_length (by rw [P_length]; omega), List.take_of_length_le (by rw [P_length]; omega)]
          have hG : G ((P (hs ss[i]) x, (rowsTo ns ss i).length + hs ss[i], false).1.take 8) = x % 256 ^ hs ss[i] := by
            show G ((P (hs ss[i]) x).take 8) = _
            rw [List.take_of_length_le (by rw [P_length]; omega), G_P]
          with_reducible refine lk_out ?_
          repeat (simp only [↓reduceIte, go_sem, f44, f46]; with_reducible refine lk_out ?_)
          try simp only [↓reduceIte, go_sem, f44, f46]
          refine wIxAddr_sl und_u64s szU (hv _) hi fun ad hr => ?_
          rw [hx'] at hr
          with_reducible first | refine lw_out ?_ | refine lw_out0 ?_ | skip
          try simp only [↓reduceIte, go_sem, hr]
          try simp only [↓reduceIte, go_sem, f46]
          with_reducible refine lk_out ?_
          try simp only [↓reduceIte, go_sem, f1]
          refine wIxAddr_sl und_ints szI (hw _) his fun ad2 hr2 => ?_
          with_reducible first | refine lw_out ?_ | refine lw_out0 ?_ | skip
          try simp only [↓reduceIte, go_sem, hr2]
          refine refHeld_ac ?_
          with_reducible first | refine lw_out ?_ | refine lw_out0 ?_ | skip
          try simp only [↓reduceIte, go_sem]
          with_reducible refine lk_out ?_
          repeat (simp only [↓reduceIte, go_sem]; with_reducible refine lk_out ?_)
          try simp only [↓reduceIte, go_sem]
          split
          · rename_i hk8
            have hk8' : hs ss[i] < 8 := by omega
            have hcmp : ((((x % 256 ^ hs ss[i] : Nat) : Int)) != bits .and .u64 (x : Int) (IntKind.u64.wrap (IntKind.u64.wrap (1 * 2 ^ ((8 * hs ss[i] : Nat) : Int).toNat) - 1))) = false := by rw [and_low hk8' hxl]; exact bne_self_eq_false _
            have e2 : IntKind.i64.wrap (8 * (hs ss[i] : Int)) = ((8 * hs ss[i] : Nat) : Int) := by rw [wrap_i64 (by omega) (by omega)]; omega
            simp only [e2]
            rw [wBin_shl_u64 (by omega) (by omega)]
            with_reducible first | refine lw_out ?_ | refine lw_out0 ?_ | skip
            try simp only [↓reduceIte, go_sem]
            with_reducible refine lk_out ?_
            repeat (simp only [↓reduceIte, go_sem, f1, f46]; with_reducible refine lk_out ?_)
            try simp only [↓reduceIte, go_sem, f1, f46, f8]
            refine wIxAddr_sl und_ints szI (hw _) his fun ad3 hr3' => ?_
            with_reducible first | refine lw_out ?_ | refine lw_out0 ?_ | skip
            try simp only [↓reduceIte, go_sem, hr3']
            try simp only [↓reduceIte, go_sem, f8]
            refine num_ac hr3 hsl3 hBall hoff hlen (by omega) fun h4 hk4 hr4 hs4 => ?_
            rw [hrd] at hr4 ⊢
            rw [hG]
            with_reducible first | refine lw_out ?_ | refine lw_out0 ?_ | skip
            try simp only [↓reduceIte, go_sem]
            rw [hcmp]
            with_reducible first | refine lw_out ?_ | refine lw_out0 ?_ | skip
            try simp only [↓reduceIte, go_sem]
            with_reducible refine lk_out ?_
            repeat (simp only [↓reduceIte, go_sem, f46]; with_reducible refine lk_out ?_)
            refine ⟨k' - 1, by omega, i + 1, by omega, ?_⟩
            with_reducible first | refine lw_out ?_ | refine lw_out0 ?_ | skip
            try simp only [↓reduceIte, go_sem, f46]
            refine ⟨f1, f5, f8, f44, f45, by rw [wrap_i64 (by omega) (by omega)]; rfl, hk3.trans hk4, ?_, hs4⟩
            rw [hrow, List.length_append, P_length]
            exact hr4
          · rename_i hk8
            have hk8' : hs ss[i] = 8 := by omega
            have hcmp : ((((x % 256 ^ hs ss[i] : Nat) : Int)) != (x : Int)) = false := by
              rw [hk8', Nat.mod_eq_of_lt (by exact hxl)]; exact bne_self_eq_false _
            with_reducible refine lk_out ?_
            repeat (simp only [↓reduceIte, go_sem, f1, f46]; with_reducible refine lk_out ?_)
            try simp only [↓reduceIte, go_sem, f1, f46, f8]
            refine wIxAddr_sl und_ints szI (hw _) his fun ad3 hr3' => ?_
            with_reducible first | refine lw_out ?_ | refine lw_out0 ?_ | skip
            try simp only [↓reduceIte, go_sem, hr3']
            try simp only [↓reduceIte, go_sem, f8]
            refine num_ac hr3 hsl3 hBall hoff hlen (by omega) fun h4 hk4 hr4 hs4 => ?_
            rw [hrd] at hr4 ⊢
            rw [hG]
            with_reducible first | refine lw_out ?_ | refine lw_out0 ?_ | skip
            try simp only [↓reduceIte, go_sem]
            rw [hcmp]
            with_reducible first | refine lw_out ?_ | refine lw_out0 ?_ | skip
            try simp only [↓reduceIte, go_sem]
            with_reducible refine lk_out ?_
            repeat (simp only [↓reduceIte, go_sem, f46]; with_reducible refine lk_out ?_)
            refine ⟨k' - 1, by omega, i + 1, by omega, ?_⟩
            with_reducible first | refine lw_out ?_ | refine lw_out0 ?_ | skip
            try simp only [↓reduceIte, go_sem, f46]
            refine ⟨f1, f5, f8, f44, f45, by rw [wrap_i64 (by omega) (by omega)]; rfl, hk3.trans hk4, ?_, hs4⟩
            rw [hrow, List.length_append, P_length]
            exact hr4
        · rename_i hge'
          have hi : i = ns.length := by omega
          subst hi
          rw [← hL] at hr3
          with_reducible refine lk_out ?_
          repeat (simp only [↓reduceIte, go_sem]; with_reducible refine lk_out ?_)
          try simp only [↓reduceIte, go_sem, f8]
          refine left_ac hr3 hsl3 ?_
          have e5 : IntKind.i64.wrap ((L.length : Int) - L.length) = 0 := by rw [Int.sub_self]; rfl
          simp only [e5]
          with_reducible first | refine lw_out ?_ | refine lw_out0 ?_ | skip
          try simp only [↓reduceIte, go_sem, f8]
          refine at_ac hr3 ?_
          with_reducible first | refine lw_out ?_ | refine lw_out0 ?_ | skip
          try simp only [↓reduceIte, go_sem, f5, f8]
          refine short_ac hr3 ?_
          with_reducible first | refine lw_out ?_ | refine lw_out0 ?_ | skip
          try simp only [↓reduceIte, go_sem, f5]
          refine read_ac ?_
          have hr6 : Rdr W0 (h3 ++ [.cells 46 [.slice pa L.length ca, .int .i64 0, .bool false]]) h3.length (.slice pa L.length ca) (0 : Nat) false := blkO_new
          have hsl6 := hsl3.ext (Ext.push h3 (.cells 46 [.slice pa L.length ca, .int .i64 0, .bool false]))
          have hoff6 : offS (· = h3.length) W0 (.slice pa L.length ca) := fun j' o n c he hh => by
            have := hold j' o n c he
            have := hk3.1
            omega
          with_reducible first | refine lw_out ?_ | refine lw_out0 ?_ | skip
          try simp only [↓reduceIte, go_sem]
          refine rest_ac hr6 hsl6 hoff6 (by omega) (by omega) fun v7 h7 hk7 hF7 hr7 hsl7 => ?_
          have e7 : (rdBytes L 0 false ((L.length : Int) - (0 : Nat))).1 = L := by
            unfold rdBytes
            rw [if_neg (by simp)]
            simp
          rw [e7] at hF7
          with_reducible first | refine lw_out ?_ | refine lw_out0 ?_ | skip
          try simp only [↓reduceIte, go_sem, f5]
          refine same_ac (Own.sl1 hF7.1) hsl7 (by omega) ?_
          with_reducible first | refine lw_out ?_ | refine lw_out0 ?_ | skip
          try simp only [↓reduceIte, go_sem]
          with_reducible refine lk_out ?_
          with_reducible first | refine lw_out ?_ | refine lw_out0 ?_ | skip
          try simp only [↓reduceIte, go_sem]
          refine hq _ _ ?_
          simp only [↓reduceIte, go_sem]
end Go.Proofs.Ytbcfpfjdleplhaa.Little4
