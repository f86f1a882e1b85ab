/- package little, the rest: numbers, what is left, sameness. -/
import Derived.Test.YtbcfpfjdleplhaaProg
import Derived.Test.YtbcfpfjdleplhaaAbObj
import Derived.Test.YtbcfpfjdleplhaaAbLittle
import Derived.KernelRfl
import Derived.OpenShut
import Derived.Laws.BitsAllLaws
set_option linter.unusedVariables false
set_option linter.unusedSimpArgs false
set_option maxRecDepth 100000
set_option maxHeartbeats 4000000
namespace Go.Proofs.Ytbcfpfjdleplhaa.Little2
open Go.RowKit Go.Proofs.AbM Go.Proofs.Ytbcfpfjdleplhaa.Little
attribute [local go_sem] awp_skip_eq awp_seq_eq awp_region_eq awp_cond_ite awp_block_eq awp_exit_eq awp_ret_eq thenA_lk thenA_ret thenA_exit inBlockA_normal inBlockA_ret inBlockA_exit bodyR_ret bodyR_normal resK_nil resK_tmp resK_cell oneOf_one oneOf_nil oneOf_more callee_eq List.toList_toArray fm_nil fm_cons wops_nil wops_n wops_s gsN_eq wop dstOk_some dstOk_none evo_tmp evo_const evo_func evo_global okO_tmp okO_const okO_func okO_global okOs_nil okOs_cons upd_at initF_nil initF_cons clo2_int clo3_int clo4_int clo2_bool clo3_bool clo4_bool clo3_string clo4_string clo3_snil clo4_snil clo3_pnil clo4_pnil wBin_add wBin_sub wBin_mul wBin_quo wBin_rem wBin_and wBin_or wBin_xor wBin_andNot wBin_eql wBin_neq wBin_lss wBin_leq wBin_gtr wBin_geq wBin_shr_i8 wBin_shl_i8 wBin_shr_i16 wBin_shl_i16 wBin_shr_i32 wBin_shl_i32 wBin_shr_i64 wBin_shl_i64 wBin_shr_u8 wBin_shl_u8 wBin_shr_u16 wBin_shl_u16 wBin_shr_u32 wBin_shl_u32 wBin_shr_u64 wBin_shl_u64 wSc_not wSc_neg wSc_com wSc_min2 wSc_max2 wConv_num intK_int Option.isSome_some List.map_toArray List.map_cons List.map_nil List.nil_append List.cons_append List.append_nil true_and and_true if_true if_false ite_true ite_false forall_eq' forall_eq exists_eq_left exists_eq_left' exists_eq' Value.bool.injEq Value.int.injEq Value.pointer.injEq Value.slice.injEq Value.tuple.injEq Value.agg.injEq Option.some.injEq decide_eq_true_eq decide_eq_false_iff_not Nat.reduceEqDiff Nat.reduceLT Nat.reduceSub reduceIte Int.reduceLE Int.reduceLT Int.reduceToNat Int.reduceNeg Int.reduceEq Int.reduceNe Int.cast_ofNat_Int Nat.reduceMul Nat.reduceAdd Int.reduceSub Int.reducePow Nat.reducePow pickO_nil pickO_cons Option.isSome_some wField_eq wLoad_f wStore_int wStore_bool wStore_slice wStore_ptr wStore_string rd_blk blkO_set blkO_new blkO_push List.getElem?_toArray List.getElem?_cons_zero List.getElem?_cons_succ List.set_cons_zero List.set_cons_succ List.set_set List.length_cons List.length_nil Option.bind_some one_slice one_int one_bool one_ptr one_string true_or or_true Bool.not_true Bool.not_false Bool.not_eq_true Bool.false_eq_true false_implies true_implies implies_true Nat.zero_add wSc_not wLen_sl wLen_str isSl_sl isStr_str isB_t isB_f Bool.not_eq_true' isBl_b pk_t pk_f pk_b Bool.true_eq_false Bool.cond_true Bool.cond_false Option.map_some Option.map_none Option.toList_some Option.toList_none Option.isNone_some Option.isNone_none lw_int lw_bool lw_ptr lw_slice lw_string lw_agg lw_tuple lw_func lw_none lw_undef Int.reduceBEq Int.reduceBNe beq_self_eq_true wSc_pb wSc_pi
attribute [local go_sem high] wops_pk wops_mv wops_as wops_smv
attribute [local go_sem] Try.underlying23 Try.underlying5 Try.underlying22 Try.underlying3 agB agBs agI agb szI szB szb offR0 offR1 offR2
theorem num_ac {n : Nat} {W0 : World} {h : Hp} {j : Nat} {s : Value} {a : Nat} {b : Bool} {l : List Int} {size : Int} {K : Value → Hp → Prop} (hr : Rdr W0 h j s a b) (hs' : SlI W0 h .u8 s l) (hB : Bytes l) (hoff : offS (· = j) W0 s) (ha : a ≤ l.length) (hl : l.length ≤ 140737488355328)
    (hK : ∀ h', Kp (· = j) h h' → Rdr W0 h' j s (rdBytes l a b (hs size)).2.1 (rdBytes l a b (hs size)).2.2 → SlI W0 h' .u8 s l → K (.int .u64 (G ((rdBytes l a b (hs size)).1.take 8) : Nat)) h') : AC Try.prog W0 (n + 3) 15 [rdrP W0 j, .int .i64 size] h K := by
  refine AC_go Try.func15 rfl (by decide) Try.ntmps15 Try.results15 rfl fun Q hq _ => ?_
  repeat (simp only [↓reduceIte, go_sem]; with_reducible refine lk_out ?_)
  try simp only [↓reduceIte, go_sem]
  refine held_ac ?_
  with_reducible first | refine lw_out ?_ | refine lw_out0 ?_ | skip
  try simp only [↓reduceIte, go_sem]
  refine bytes_ac hr hs' hoff ha hl fun v h' hk hF hr2 hs2 => ?_
  with_reducible first | refine lw_out ?_ | refine lw_out0 ?_ | skip
  try simp only [↓reduceIte, go_sem]
  have hB2 : Bytes (rdBytes l a b (hs size)).1 := by
    unfold rdBytes; split
    · exact fun x hx => by simp at hx
    · exact (hB.drop _).take _
  refine get_ac (Own.sl1 hF.1) hB2 ?_
  with_reducible first | refine lw_out ?_ | refine lw_out0 ?_ | skip
  try simp only [↓reduceIte, go_sem]
  with_reducible refine lk_out ?_
  with_reducible first | refine lw_out ?_ | refine lw_out0 ?_ | skip
  try simp only [↓reduceIte, go_sem]
  refine hq _ _ ?_
  simp only [↓reduceIte, go_sem]
  exact hK _ hk hr2 hs2
theorem rest_ac {n : Nat} {W0 : World} {h : Hp} {j : Nat} {s : Value} {a : Nat} {b : Bool} {l : List Int} {K : Value → Hp → Prop} (hr : Rdr W0 h j s a b) (hs' : SlI W0 h .u8 s l) (hoff : offS (· = j) W0 s) (ha : a ≤ l.length) (hl : l.length ≤ 140737488355328)
    (hK : ∀ v h', Kp (· = j) h h' → Fresh W0 h h' v (rdBytes l a b ((l.length : Int) - a)).1 → Rdr W0 h' j s (rdBytes l a b ((l.length : Int) - a)).2.1 (rdBytes l a b ((l.length : Int) - a)).2.2 → SlI W0 h' .u8 s l → K v h') : AC Try.prog W0 (n + 3) 19 [rdrP W0 j] h K := by
  refine AC_go Try.func19 rfl (by decide) Try.ntmps19 Try.results19 rfl fun Q hq _ => ?_
  repeat (simp only [↓reduceIte, go_sem]; with_reducible refine lk_out ?_)
  try simp only [↓reduceIte, go_sem]
  refine left_ac hr hs' ?_
  rw [wrap_i64 (by omega) (by omega)]
  with_reducible first | refine lw_out ?_ | refine lw_out0 ?_ | skip
  try simp only [↓reduceIte, go_sem]
  refine bytes_ac hr hs' hoff ha hl fun v h' hk hF hr2 hs2 => ?_
  with_reducible first | refine lw_out ?_ | refine lw_out0 ?_ | skip
  try simp only [↓reduceIte, go_sem]
  with_reducible refine lk_out ?_
  with_reducible first | refine lw_out ?_ | refine lw_out0 ?_ | skip
  try simp only [↓reduceIte, go_sem]
  refine hq _ _ ?_
  simp only [↓reduceIte, go_sem]
  exact hK _ _ hk hF hr2 hs2
theorem read_ac {n : Nat} {W0 : World} {h : Hp} {a : Option Addr} {l c : Nat} {K : Value → Hp → Prop} (hK : K (rdrP W0 h.length) (h ++ [.cells 46 [.slice a l c, .int .i64 0, .bool false]])) : AC Try.prog W0 (n + 1) 13 [.slice a l c] h K := by
  refine AC_go Try.func13 rfl (by decide) Try.ntmps13 Try.results13 rfl fun Q hq _ => ?_
  repeat (simp only [↓reduceIte, go_sem]; with_reducible refine lk_out ?_)
  try simp only [↓reduceIte, go_sem]
  refine ⟨.agg #[.slice none 0 0, .int .i64 0, .bool false], by kernel_rfl, by kernel_rfl, .inl ⟨_, [(0, 1), (1, 1), (2, 1)], #[.slice a l c, .int .i64 0, .bool false], Try.underlying46, by kernel_rfl, rfl, ?_⟩⟩
  with_reducible first | refine lw_out ?_ | refine lw_out0 ?_ | skip
  try simp only [↓reduceIte, go_sem]
  refine ⟨by kernel_rfl, by simp [Value.cells, Value.oneCell'], ?_⟩
  with_reducible first | refine lw_out ?_ | refine lw_out0 ?_ | skip
  try simp only [↓reduceIte, go_sem]
  with_reducible refine lk_out ?_
  with_reducible first | refine lw_out ?_ | refine lw_out0 ?_ | skip
  try simp only [↓reduceIte, go_sem]
  refine hq _ _ ?_
  simp only [↓reduceIte, go_sem]
  exact hK
theorem same_ac {n : Nat} {W0 : World} {h : Hp} {v w : Value} {a b : List Int} {K : Value → Hp → Prop} (ha : SlI W0 h .u8 v a) (hb : SlI W0 h .u8 w b) (hl : a.length ≤ 140737488355328) (hK : K (.bool (decide (a = b))) h) : AC Try.prog W0 (n + 1) 10 [v, w] h K := by
  refine AC_go Try.func10 rfl (by decide) Try.ntmps10 Try.results10 rfl fun Q hq _ => ?_
  obtain ⟨p, c, rfl⟩ := ha.len
  obtain ⟨q, d, rfl⟩ := hb.len
  repeat (simp only [↓reduceIte, go_sem]; with_reducible refine lk_out ?_)
  try simp only [↓reduceIte, go_sem]
  split
  · rename_i hne
    with_reducible refine lk_out ?_
    repeat (simp only [↓reduceIte, go_sem]; with_reducible refine lk_out ?_)
    with_reducible first | refine lw_out ?_ | refine lw_out0 ?_ | skip
    try simp only [↓reduceIte, go_sem]
    refine hq _ _ ?_
    simp only [↓reduceIte, go_sem]
    rw [decide_eq_false (fun e => by subst e; simp at hne)] at hK
    exact hK
  · rename_i hne
    have hlen : a.length = b.length := by simp at hne; omega
    with_reducible refine lk_out ?_
    repeat (simp only [↓reduceIte, go_sem]; with_reducible refine lk_out ?_)
    try simp only [↓reduceIte, go_sem]
    refine awp_loop (k := a.length) (fun k ρ h1 => h1 = h ∧ ∃ i : Nat, k + i = a.length ∧ ρ 0 = .slice p a.length c ∧ ρ 1 = .slice q b.length d ∧ ρ 5 = .int .i64 i ∧ a.take i = b.take i) ?_ ?_
    · with_reducible first | refine lw_out ?_ | refine lw_out0 ?_ | skip
      try simp only [↓reduceIte, go_sem]
      exact ⟨0, by omega, by simp⟩
    · rintro k ρ h1 ⟨rfl, i, hki, h0, h1', h5, heq⟩
      repeat (simp only [↓reduceIte, go_sem, h0, h1', h5]; with_reducible refine lk_out ?_)
      try simp only [↓reduceIte, go_sem, h0, h1', h5]
      split
      · rename_i hlt
        have hia : i < a.length := by omega
        have hib : i < b.length := by omega
        with_reducible refine lk_out ?_
        repeat (simp only [↓reduceIte, go_sem, h0, h1', h5]; with_reducible refine lk_out ?_)
        try simp only [↓reduceIte, go_sem]
        refine awp_draw [0, 1, 2, 3, 4, 5, 6, 7, 8] mixed (by kernel_rfl) ?_
        try simp only [↓reduceIte, go_sem, h0, h1', h5]
        refine wIxAddr_sl Try.underlying23 szB ha hia fun ad hr => ?_
        try simp only [↓reduceIte, go_sem, hr]
        try simp only [↓reduceIte, go_sem, h0, h1', h5]
        refine wIxAddr_sl Try.underlying23 szB hb hib fun ad' hr' => ?_
        try simp only [↓reduceIte, go_sem, hr']
        with_reducible refine lk_out ?_
        try simp only [↓reduceIte, go_sem]
        split
        · rename_i hne'
          with_reducible refine lk_out ?_
          repeat (simp only [↓reduceIte, go_sem]; with_reducible refine lk_out ?_)
          with_reducible first | refine lw_out ?_ | refine lw_out0 ?_ | skip
          try simp only [↓reduceIte, go_sem]
          refine hq _ _ ?_
          simp only [↓reduceIte, go_sem]
          rw [decide_eq_false (fun e => by subst e; simp at hne')] at hK
          exact hK
        · rename_i heq'
          with_reducible refine lk_out ?_
          repeat (simp only [↓reduceIte, go_sem, h5]; with_reducible refine lk_out ?_)
          refine ⟨k - 1, by omega, rfl, i + 1, by omega, ?_⟩
          with_reducible first | refine lw_out ?_ | refine lw_out0 ?_ | skip
          try simp only [↓reduceIte, go_sem]
          refine ⟨h0, h1', by rw [wrap_i64 (by omega) (by omega)]; rfl, ?_⟩
          rw [List.take_succ_eq_append_getElem hia, List.take_succ_eq_append_getElem hib, heq]
          congr 2
          simpa using heq'
      · rename_i hge
        with_reducible refine lk_out ?_
        repeat (simp only [↓reduceIte, go_sem]; with_reducible refine lk_out ?_)
        with_reducible first | refine lw_out ?_ | refine lw_out0 ?_ | skip
        try simp only [↓reduceIte, go_sem]
        refine hq _ _ ?_
        simp only [↓reduceIte, go_sem]
        have : a = b := by
          have h1 : a.take i = a := List.take_of_length_le (by omega)
          have h2 : b.take i = b := List.take_of_length_le (by omega)
          rw [← h1, ← h2, heq]
        rw [decide_eq_true this] at hK
        exact hK
theorem refHeld_ac {n : Nat} {W0 : World} {h : Hp} {x : Int} {K : Value → Hp → Prop} (hK : K (.int .i64 (hs x : Nat)) h) : AC Try.prog W0 (n + 1) 14 [.int .i64 x, .int .i64 0, .int .i64 8] h K := by
  refine AC_go Try.func14 rfl (by decide) Try.ntmps14 Try.results14 rfl fun Q hq _ => ?_
  repeat (simp only [↓reduceIte, go_sem]; with_reducible refine lk_out ?_)
  try simp only [↓reduceIte, go_sem]
  have e : ∀ y : Int, y = (hs x : Nat) → K (.int .i64 y) h := fun y hy => hy ▸ hK
  split
  · rename_i h1
    with_reducible refine lk_out ?_
    repeat (simp only [↓reduceIte, go_sem]; with_reducible refine lk_out ?_)
    with_reducible first | refine lw_out ?_ | refine lw_out0 ?_ | skip
    try simp only [↓reduceIte, go_sem]
    refine hq _ _ ?_
    simp only [↓reduceIte, go_sem]
    exact e 8 (by unfold hs; omega)
  · rename_i h1
    with_reducible refine lk_out ?_
    repeat (simp only [↓reduceIte, go_sem]; with_reducible refine lk_out ?_)
    try simp only [↓reduceIte, go_sem]
    split
    · rename_i h2
      with_reducible refine lk_out ?_
      repeat (simp only [↓reduceIte, go_sem]; with_reducible refine lk_out ?_)
      with_reducible first | refine lw_out ?_ | refine lw_out0 ?_ | skip
      try simp only [↓reduceIte, go_sem]
      refine hq _ _ ?_
      simp only [↓reduceIte, go_sem]
      exact e 0 (by unfold hs; omega)
    · rename_i h2
      with_reducible refine lk_out ?_
      repeat (simp only [↓reduceIte, go_sem]; with_reducible refine lk_out ?_)
      with_reducible first | refine lw_out ?_ | refine lw_out0 ?_ | skip
      try simp only [↓reduceIte, go_sem]
      refine hq _ _ ?_
      simp only [↓reduceIte, go_sem]
      exact e x (by unfold hs; omega)
theorem fits_ac {n : Nat} {W0 : World} {h : Hp} {x : Nat} {size : Int} {K : Value → Hp → Prop} (hK : K (.bool (decide (8 ≤ size ∨ x / 2 ^ (8 * hs size) = 0))) h) : AC Try.prog W0 (n + 2) 12 [.int .u64 x, .int .i64 size] h K := by
  refine AC_go Try.func12 rfl (by decide) Try.ntmps12 Try.results12 rfl fun Q hq _ => ?_
  by_cases h8 : 8 ≤ size
  · have e1 : decide (size ≥ 8) = true := decide_eq_true h8
    repeat (simp only [↓reduceIte, go_sem, e1]; with_reducible refine lk_out ?_)
    with_reducible first | refine lw_out ?_ | refine lw_out0 ?_ | skip
    try simp only [↓reduceIte, go_sem]
    refine hq _ _ ?_
    simp only [↓reduceIte, go_sem]
    rw [decide_eq_true (Or.inl h8)] at hK
    exact hK
  · have e1 : decide (size ≥ 8) = false := decide_eq_false (by omega)
    have hN := hs_le size
    have hn : ∀ e, (decide ((x : Int) / 2 ^ e = 0)) = decide (x / 2 ^ e = 0) := fun e => by
      apply decide_eq_decide.2
      have h2 : ((2 : Int) ^ e) = ((2 ^ e : Nat) : Int) := by simp
      rw [h2, ← Int.natCast_ediv]
      omega
    repeat (simp only [↓reduceIte, go_sem, e1]; with_reducible refine lk_out ?_)
    try simp only [↓reduceIte, go_sem, e1]
    refine held_ac ?_
    with_reducible first | refine lw_out ?_ | refine lw_out0 ?_ | skip
    try simp only [↓reduceIte, go_sem]
    have e2 : IntKind.i64.wrap (8 * (hs size : Int)) = ((8 * hs size : Nat) : Int) := by rw [wrap_i64 (by omega) (by omega)]; omega
    simp only [e2]
    rw [wBin_shr_u64 (by omega) (by omega)]
    with_reducible first | refine lw_out ?_ | refine lw_out0 ?_ | skip
    try simp only [↓reduceIte, go_sem]
    with_reducible refine lk_out ?_
    with_reducible first | refine lw_out ?_ | refine lw_out0 ?_ | skip
    try simp only [↓reduceIte, go_sem]
    refine hq _ _ ?_
    simp only [↓reduceIte, go_sem]
    have e3 : (((x : Int) / 2 ^ ((8 * hs size : Nat) : Int).toNat) == 0) = decide (8 ≤ size ∨ x / 2 ^ (8 * hs size) = 0) := by
      rw [Int.toNat_natCast]
      have := hn (8 * hs size)
      rw [show (decide (8 ≤ size ∨ x / 2 ^ (8 * hs size) = 0)) = decide (x / 2 ^ (8 * hs size) = 0) from decide_eq_decide.2 (by simp [h8]), ← this]
      rfl
    rw [e3]
    exact hK
end Go.Proofs.Ytbcfpfjdleplhaa.Little2
