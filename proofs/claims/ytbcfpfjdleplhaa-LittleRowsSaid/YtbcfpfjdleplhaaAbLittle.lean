/- package little and the shared helpers, on the abstract machine. -/
import Derived.Test.YtbcfpfjdleplhaaProg
import Derived.Test.YtbcfpfjdleplhaaAbObj
import Derived.KernelRfl
import Derived.OpenShut
import Derived.Laws.BitsAllLaws
set_option linter.unusedVariables false
set_option linter.unusedSimpArgs false
set_option maxRecDepth 100000
set_option maxHeartbeats 4000000
namespace Go.Proofs.Ytbcfpfjdleplhaa.Little
open Go.RowKit Go.Proofs.AbM
attribute [local go_sem] awp_skip_eq awp_seq_eq awp_region_eq awp_cond_ite awp_block_eq awp_exit_eq awp_ret_eq thenA_lk thenA_ret thenA_exit inBlockA_normal inBlockA_ret inBlockA_exit bodyR_ret bodyR_normal resK_nil resK_tmp resK_cell oneOf_one oneOf_nil oneOf_more callee_eq List.toList_toArray fm_nil fm_cons wops_nil wops_n wops_s gsN_eq wop dstOk_some dstOk_none evo_tmp evo_const evo_func evo_global okO_tmp okO_const okO_func okO_global okOs_nil okOs_cons upd_at initF_nil initF_cons clo2_int clo3_int clo4_int clo2_bool clo3_bool clo4_bool clo3_string clo4_string clo3_snil clo4_snil clo3_pnil clo4_pnil wBin_add wBin_sub wBin_mul wBin_quo wBin_rem wBin_and wBin_or wBin_xor wBin_andNot wBin_eql wBin_neq wBin_lss wBin_leq wBin_gtr wBin_geq wBin_shr_i8 wBin_shl_i8 wBin_shr_i16 wBin_shl_i16 wBin_shr_i32 wBin_shl_i32 wBin_shr_i64 wBin_shl_i64 wBin_shr_u8 wBin_shl_u8 wBin_shr_u16 wBin_shl_u16 wBin_shr_u32 wBin_shl_u32 wBin_shr_u64 wBin_shl_u64 wSc_not wSc_neg wSc_com wSc_min2 wSc_max2 wConv_num intK_int Option.isSome_some List.map_toArray List.map_cons List.map_nil List.nil_append List.cons_append List.append_nil true_and and_true if_true if_false ite_true ite_false forall_eq' forall_eq exists_eq_left exists_eq_left' exists_eq' Value.bool.injEq Value.int.injEq Value.pointer.injEq Value.slice.injEq Value.tuple.injEq Value.agg.injEq Option.some.injEq decide_eq_true_eq decide_eq_false_iff_not Nat.reduceEqDiff Nat.reduceLT Nat.reduceSub reduceIte Int.reduceLE Int.reduceLT Int.reduceToNat Int.reduceNeg Int.reduceEq Int.reduceNe Int.cast_ofNat_Int Nat.reduceMul Nat.reduceAdd Int.reduceSub Int.reducePow Nat.reducePow pickO_nil pickO_cons Option.isSome_some wField_eq wLoad_f wStore_int wStore_bool wStore_slice wStore_ptr wStore_string rd_blk blkO_set blkO_new blkO_push List.getElem?_toArray List.getElem?_cons_zero List.getElem?_cons_succ List.set_cons_zero List.set_cons_succ List.set_set List.length_cons List.length_nil Option.bind_some one_slice one_int one_bool one_ptr one_string true_or or_true Bool.not_true Bool.not_false Bool.not_eq_true Bool.false_eq_true false_implies true_implies implies_true Nat.zero_add wSc_not wLen_sl wLen_str isSl_sl isStr_str isB_t isB_f Bool.not_eq_true' isBl_b pk_t pk_f pk_b Bool.true_eq_false Bool.cond_true Bool.cond_false Option.map_some Option.map_none Option.toList_some Option.toList_none Option.isNone_some Option.isNone_none lw_int lw_bool lw_ptr lw_slice lw_string lw_agg lw_tuple lw_func lw_none lw_undef Int.reduceBEq Int.reduceBNe beq_self_eq_true wSc_pb wSc_pi
attribute [local go_sem high] wops_pk wops_mv wops_as wops_smv
abbrev Bytes (l : List Int) : Prop := ∀ x ∈ l, (Lit.int .u8 x).wf = true
/-- A number's lowest bytes. -/
def P : Nat → Nat → List Int
  | 0, _ => []
  | s + 1, n => ((n % 256 : Nat) : Int) :: P s (n / 256)
/-- The number of bytes. -/
def G : List Int → Nat
  | [] => 0
  | b :: r => b.toNat + 256 * G r
theorem P_length : ∀ s n, (P s n).length = s
  | 0, _ => rfl
  | s + 1, n => by simp [P, P_length s]
theorem wf_byte {n : Nat} (h : n < 256) : (Lit.int .u8 (n : Int)).wf = true := by
  simp [Lit.wf, IntKind.min, IntKind.max, IntKind.signed, IntKind.bits]
  omega
theorem P_bytes : ∀ s n, Bytes (P s n)
  | 0, _ => fun x hx => by simp [P] at hx
  | s + 1, n => fun x hx => by
    rcases List.mem_cons.1 hx with rfl | h
    · exact wf_byte (Nat.mod_lt _ (by omega))
    · exact P_bytes s _ x h
theorem pow_pos (s : Nat) : 0 < 256 ^ s := Nat.pow_pos (by omega)
theorem G_P : ∀ s n, G (P s n) = n % 256 ^ s
  | 0, n => by simp [P, G, Nat.mod_one]
  | s + 1, n => by
    show (((n % 256 : Nat) : Int)).toNat + 256 * G (P s (n / 256)) = _
    rw [G_P s, Int.toNat_natCast, Nat.pow_succ, Nat.mul_comm (256 ^ s) 256, Nat.mod_mul]
theorem byte_bd {x : Int} (h : (Lit.int .u8 x).wf = true) : x.toNat < 256 ∧ ((x.toNat : Nat) : Int) = x := by
  have := bounds_u8 h
  omega
theorem G_lt : ∀ {l : List Int}, Bytes l → G l < 256 ^ l.length
  | [], _ => by simp [G]
  | b :: r, h => by
    have h1 := (byte_bd (h b List.mem_cons_self)).1
    have h2 := G_lt (fun x hx => h x (List.mem_cons_of_mem _ hx))
    show b.toNat + 256 * G r < 256 ^ (r.length + 1)
    rw [Nat.pow_succ]
    have := Nat.mul_le_mul_left 256 (Nat.succ_le_of_lt h2)
    omega
theorem G_append : ∀ (a b : List Int), G (a ++ b) = G a + 256 ^ a.length * G b
  | [], b => by simp [G]
  | x :: r, b => by
    show x.toNat + 256 * G (r ++ b) = x.toNat + 256 * G r + 256 ^ (r.length + 1) * G b
    rw [G_append r b, Nat.pow_succ, Nat.mul_add, Nat.mul_comm (256 ^ r.length) 256, Nat.mul_assoc, Nat.add_assoc]
theorem Bytes.take {l : List Int} (h : Bytes l) (n : Nat) : Bytes (l.take n) := fun x hx => h x (List.mem_of_mem_take hx)
theorem Bytes.drop {l : List Int} (h : Bytes l) (n : Nat) : Bytes (l.drop n) := fun x hx => h x (List.mem_of_mem_drop hx)
theorem Bytes.append {a b : List Int} (h : Bytes a) (h' : Bytes b) : Bytes (a ++ b) := fun x hx => by
  rcases List.mem_append.1 hx with h1 | h1
  · exact h x h1
  · exact h' x h1
/-- The P of a G. -/
theorem P_G : ∀ {l : List Int}, Bytes l → P l.length (G l) = l
  | [], _ => rfl
  | b :: r, h => by
    have h1 := byte_bd (h b List.mem_cons_self)
    show (((b.toNat + 256 * G r) % 256 : Nat) : Int) :: P r.length ((b.toNat + 256 * G r) / 256) = b :: r
    rw [show (b.toNat + 256 * G r) % 256 = b.toNat by omega, show (b.toNat + 256 * G r) / 256 = G r by omega, P_G (fun x hx => h x (List.mem_cons_of_mem _ hx)), h1.2]
theorem wraps_u64 (n : Int) (h₀ : 0 ≤ n) (h₁ : n < 2 ^ 64) : IntKind.u64.wrap n = n := by
  simp [IntKind.wrap, IntKind.bits, IntKind.signed]
  omega
theorem bits_or_bytes {a b : Nat} (ha : a < 72057594037927936) (hb : b < 256) : Go.bits .or .u64 ((a * 256 : Nat) : Int) (b : Int) = ((b + 256 * a : Nat) : Int) := by
  have := bits_join .u64 64 (by decide) wraps_u64 8 ((a * 256 : Nat) : Int) (b : Int) (by omega) (by show ((a * 256 : Nat) : Int) % 256 = 0; omega) (by show ((a * 256 : Nat) : Int) < 18446744073709551616; omega) (by omega) (by show (b : Int) < 256; omega) (by show (b : Int) < 18446744073709551616; omega)
  rw [this]
  omega
/-- The size that is held. -/
def hs (size : Int) : Nat := min size.toNat 8
theorem hs_eq (a : Int) : (if 8 < (if 0 > a then 0 else a) then 8 else (if 0 > a then 0 else a)) = (hs a : Int) := by unfold hs; split <;> split at * <;> omega
theorem hs_le (a : Int) : hs a ≤ 8 := by unfold hs; omega
theorem P_snoc : ∀ (i n : Nat), P (i + 1) n = P i n ++ [((n / 256 ^ i % 256 : Nat) : Int)]
  | 0, n => by simp [P]
  | i + 1, n => by
    show ((n % 256 : Nat) : Int) :: P (i + 1) (n / 256) = ((n % 256 : Nat) : Int) :: P i (n / 256) ++ _
    rw [P_snoc i, Nat.div_div_eq_div_mul, Nat.pow_succ, Nat.mul_comm 256]
    simp
theorem wrap_i64 {n : Int} (h1 : -9223372036854775808 ≤ n) (h2 : n ≤ 9223372036854775807) : IntKind.i64.wrap n = n := by rw [IntKind.wrap_i64]; omega
theorem wrap_u8 {n : Int} (h1 : 0 ≤ n) (h2 : n < 256) : IntKind.u8.wrap n = n := by rw [IntKind.wrap_u8]; omega
theorem stB : SlT Try.prog 23 5 (.int .u8 0) 1 := ⟨Try.underlying23, by kernel_rfl, by kernel_rfl, by kernel_rfl, by kernel_rfl, by kernel_rfl⟩
theorem agB : isAggO Try.prog 5 = some false := by kernel_rfl
theorem agBs : isAggO Try.prog 23 = some false := by kernel_rfl
theorem agI : isAggO Try.prog 3 = some false := by kernel_rfl
theorem agb : isAggO Try.prog 4 = some false := by kernel_rfl
theorem szI : szO Try.prog 3 = some 1 := by kernel_rfl
theorem szB : szO Try.prog 5 = some 1 := by kernel_rfl
theorem szb : szO Try.prog 4 = some 1 := by kernel_rfl
theorem mixed : Try.prog.follows .mixedOrders = true := by kernel_rfl
theorem offR0 : offO Try.prog 46 0 = some 0 := by kernel_rfl
theorem offR1 : offO Try.prog 46 1 = some 1 := by kernel_rfl
theorem offR2 : offO Try.prog 46 2 = some 2 := by kernel_rfl
attribute [local go_sem] Try.underlying23 Try.underlying5 Try.underlying22 Try.underlying3 agB agBs agI agb szI szB szb offR0 offR1 offR2
theorem held_ac {n : Nat} {W0 : World} {h : Hp} {a : Int} {K : Value → Hp → Prop} (hK : K (.int .i64 (hs a : Nat)) h) : AC Try.prog W0 (n + 1) 22 [.int .i64 a] h K := by
  refine AC_go Try.func22 rfl (by decide) Try.ntmps22 Try.results22 rfl fun Q hq _ => ?_
  simp only [↓reduceIte, go_sem]
  with_reducible refine lk_out ?_
  simp only [↓reduceIte, go_sem]
  with_reducible refine lk_out ?_
  refine hq _ _ ?_
  simp only [↓reduceIte, go_sem]
  rw [hs_eq]
  exact hK
theorem put_ac {n : Nat} {W0 : World} {h : Hp} {x : Nat} {size : Int} {K : Value → Hp → Prop}
    (hK : ∀ v h', Ext h h' → Own W0 h' 5 1 v (hs size) ((P (hs size) x).map (Value.int .u8)) → (∀ j, ownAt W0 v j → h.length ≤ j) → K v h') : AC Try.prog W0 (n + 2) 7 [.int .u64 x, .int .i64 size] h K := by
  refine AC_go Try.func7 rfl (by decide) Try.ntmps7 Try.results7 rfl fun Q hq _ => ?_
  repeat (simp only [↓reduceIte, go_sem]; with_reducible refine lk_out ?_)
  try simp only [↓reduceIte, go_sem]
  refine held_ac ?_
  with_reducible first | refine lw_out ?_ | refine lw_out0 ?_ | skip
  try simp only [↓reduceIte, go_sem]
  with_reducible refine lk_out ?_
  have hN := hs_le size
  generalize hs size = N at *
  refine awp_loop (k := N) (fun k ρ h1 => ∃ i : Nat, k + i = N ∧ ρ 0 = .int .u64 (x / 256 ^ i : Nat) ∧ ρ 7 = .int .i64 N ∧ ρ 8 = .int .i64 i ∧ Ext h h1 ∧ (∀ j, ownAt W0 (ρ 5) j → h.length ≤ j) ∧ Own W0 h1 5 1 (ρ 5) i ((P i x).map (Value.int .u8))) ?_ ?_
  · refine ⟨0, rfl, ?_⟩
    simp only [go_sem]
    refine ⟨by simp, Ext.refl _, ?_, .nil⟩
    rintro j ⟨_, _, he⟩
    cases he
  · rintro k ρ h1 ⟨i, hki, h0, h7, h8, hE, hj, hO⟩
    repeat (simp only [↓reduceIte, go_sem, h0, h7, h8]; with_reducible refine lk_out ?_)
    try simp only [↓reduceIte, go_sem, h7, h8]
    split
    · rename_i hlt
      with_reducible refine lk_out ?_
      try simp only [↓reduceIte, go_sem, h0]
      refine wBuildS_ones stB [_] rfl rfl (by omega) (by simp [Value.oneCell']) ?_
      with_reducible first | refine lw_out ?_ | refine lw_out0 ?_ | skip
      try simp only [↓reduceIte, go_sem]
      refine wAppend_own stB (hO.ext (Ext.push _ _)) (newsO_new Try.underlying23 rfl) (by omega) (by omega) fun v h' hO' hE' hj' _ _ => ?_
      with_reducible first | refine lw_out ?_ | refine lw_out0 ?_ | skip
      try simp only [↓reduceIte, go_sem]
      with_reducible refine lk_out ?_
      repeat (simp only [↓reduceIte, go_sem, h0, h8]; with_reducible refine lk_out ?_)
      with_reducible first | refine lw_out ?_ | refine lw_out0 ?_ | skip
      try simp only [↓reduceIte, go_sem]
      have hw : IntKind.i64.wrap ((i : Int) + 1) = ((i + 1 : Nat) : Int) := by rw [IntKind.wrap_i64]; omega
      refine ⟨k - 1, by omega, i + 1, by omega, ?_, h7, by rw [hw], hE' h (hE.trans (Ext.push _ _)) hj, fun j ho => ?_, ?_⟩
      · rw [Nat.pow_succ, ← Nat.div_div_eq_div_mul]
        generalize x / 256 ^ i = y
        omega
      · have h9 := hj' j ho
        rw [List.length_append] at h9
        have := hE.length
        omega
      · rw [P_snoc, List.map_append, List.map_cons, List.map_nil]
        rw [IntKind.wrap_u8] at hO'
        exact hO'
    · rename_i hge
      with_reducible refine lk_out ?_
      repeat (simp only [↓reduceIte, go_sem]; with_reducible refine lk_out ?_)
      with_reducible first | refine lw_out ?_ | refine lw_out0 ?_ | skip
      try simp only [↓reduceIte, go_sem]
      refine hq _ _ ?_
      simp only [↓reduceIte, go_sem]
      have hi : i = N := by omega
      subst hi
      exact hK _ _ hE hO hj
theorem get_ac {n : Nat} {W0 : World} {h : Hp} {v : Value} {l : List Int} {K : Value → Hp → Prop} (hs : SlI W0 h .u8 v l) (hB : Bytes l) (hK : K (.int .u64 (G (l.take 8) : Nat)) h) : AC Try.prog W0 (n + 1) 11 [v] h K := by
  refine AC_go Try.func11 rfl (by decide) Try.ntmps11 Try.results11 rfl fun Q hq _ => ?_
  obtain ⟨a, c, rfl⟩ := hs.len
  repeat (simp only [↓reduceIte, go_sem]; with_reducible refine lk_out ?_)
  try simp only [↓reduceIte, go_sem]
  have e : (if (8 : Int) < (l.length : Int) then 8 else (l.length : Int)) = ((min l.length 8 : Nat) : Int) := by split <;> omega
  rw [e, wrap_i64 (by omega) (by omega)]
  refine awp_loop (k := min l.length 8) (fun k ρ h1 => h1 = h ∧ ρ 0 = .slice a l.length c ∧ k ≤ min l.length 8 ∧ ρ 4 = .int .i64 ((k : Int) - 1) ∧ ρ 3 = .int .u64 (G ((l.take (min l.length 8)).drop k) : Nat)) ?_ ?_
  · simp only [go_sem]
    refine ⟨by omega, ?_⟩
    rw [List.drop_eq_nil_of_le (by rw [List.length_take]; omega)]
    simp [G]
  · rintro k ρ h1 ⟨rfl, h0, hk, h4, h3⟩
    repeat (simp only [↓reduceIte, go_sem, h4]; with_reducible refine lk_out ?_)
    try simp only [↓reduceIte, go_sem]
    split
    · rename_i hge
      with_reducible refine lk_out ?_
      obtain ⟨k, rfl⟩ : ∃ k', k = k' + 1 := ⟨k - 1, by omega⟩
      have hkl : k < l.length := by omega
      have e0 : ((k + 1 : Nat) : Int) - 1 = (k : Int) := by omega
      rw [e0] at h4
      try simp only [↓reduceIte, go_sem, h0, h3, h4]
      refine wIxAddr_sl Try.underlying23 szB hs hkl fun ad hr => ?_
      with_reducible first | refine lw_out ?_ | refine lw_out0 ?_ | skip
      try simp only [↓reduceIte, go_sem, hr]
      with_reducible refine lk_out ?_
      repeat (simp only [↓reduceIte, go_sem, h4]; with_reducible refine lk_out ?_)
      with_reducible first | refine lw_out ?_ | refine lw_out0 ?_ | skip
      try simp only [↓reduceIte, go_sem]
      have hb := byte_bd (hB _ (List.getElem_mem hkl))
      have hg := G_lt ((hB.take (min l.length 8)).drop (k + 1))
      have hl : ((l.take (min l.length 8)).drop (k + 1)).length ≤ 7 := by rw [List.length_drop, List.length_take]; omega
      have hp : 256 ^ ((l.take (min l.length 8)).drop (k + 1)).length ≤ 256 ^ 7 := Nat.pow_le_pow_right (by omega) hl
      have hp7 : (256 : Nat) ^ 7 = 72057594037927936 := by decide
      rw [hp7] at hp
      have hu : ((l.take (min l.length 8)).drop k) = (l[k]'hkl) :: ((l.take (min l.length 8)).drop (k + 1)) := by
        rw [List.drop_eq_getElem_cons (by rw [List.length_take]; omega), List.getElem_take]
      refine ⟨k, by omega, h0, by omega, by rw [wrap_i64 (by omega) (by omega)], ?_⟩
      rw [hu]
      simp only [G]
      generalize G ((l.take (min l.length 8)).drop (k + 1)) = q at *
      have hlt : q < 72057594037927936 := Nat.lt_of_lt_of_le hg hp
      clear hp hg hp7
      have e1 : IntKind.u64.wrap ((q : Int) * 256) = ((q * 256 : Nat) : Int) := by
        rw [wraps_u64 _ (by omega) (by show (q : Int) * 256 < 18446744073709551616; omega)]
        omega
      generalize l[k] = y at *
      have ey : y = ((y.toNat : Nat) : Int) := hb.2.symm
      rw [e1, wraps_u64 _ (by omega) (by show y < 18446744073709551616; omega)]
      rw [ey, bits_or_bytes hlt hb.1]
      simp
    · rename_i hlt
      with_reducible refine lk_out ?_
      repeat (simp only [↓reduceIte, go_sem]; with_reducible refine lk_out ?_)
      try simp only [↓reduceIte, go_sem, h3]
      refine hq _ _ ?_
      simp only [↓reduceIte, go_sem, h3]
      have : k = 0 := by omega
      subst this
      rw [List.drop_zero] 
      have e2 : l.take (min l.length 8) = l.take 8 := by rw [List.take_eq_take_iff]; omega
      rw [e2]
      exact hK
/-- A reader, in block j. -/
def Rdr (W0 : World) (h : Hp) (j : Nat) (s : Value) (at_ : Int) (short : Bool) : Prop := blkO h j = some (46, [s, .int .i64 at_, .bool short])
def rdrP (W0 : World) (j : Nat) : Value := .pointer (some ⟨W0.heap.size + j, 0, none⟩)
theorem at_ac {n : Nat} {W0 : World} {h : Hp} {j : Nat} {s : Value} {a : Int} {b : Bool} {K : Value → Hp → Prop} (hr : Rdr W0 h j s a b) (hK : K (.int .i64 a) h) : AC Try.prog W0 (n + 1) 17 [rdrP W0 j] h K := by
  refine AC_go Try.func17 rfl (by decide) Try.ntmps17 Try.results17 rfl fun Q hq _ => ?_
  unfold Rdr at hr
  unfold rdrP
  repeat (simp only [↓reduceIte, go_sem, hr]; with_reducible refine lk_out ?_)
  with_reducible first | refine lw_out ?_ | refine lw_out0 ?_ | skip
  try simp only [↓reduceIte, go_sem]
  refine hq _ _ ?_
  simp only [↓reduceIte, go_sem]
  exact hK
theorem short_ac {n : Nat} {W0 : World} {h : Hp} {j : Nat} {s : Value} {a : Int} {b : Bool} {K : Value → Hp → Prop} (hr : Rdr W0 h j s a b) (hK : K (.bool b) h) : AC Try.prog W0 (n + 1) 18 [rdrP W0 j] h K := by
  refine AC_go Try.func18 rfl (by decide) Try.ntmps18 Try.results18 rfl fun Q hq _ => ?_
  unfold Rdr at hr
  unfold rdrP
  repeat (simp only [↓reduceIte, go_sem, hr]; with_reducible refine lk_out ?_)
  with_reducible first | refine lw_out ?_ | refine lw_out0 ?_ | skip
  try simp only [↓reduceIte, go_sem]
  refine hq _ _ ?_
  simp only [↓reduceIte, go_sem]
  exact hK
theorem left_ac {n : Nat} {W0 : World} {h : Hp} {j : Nat} {s : Value} {a : Int} {b : Bool} {l : List Int} {K : Value → Hp → Prop} (hr : Rdr W0 h j s a b) (hs : SlI W0 h .u8 s l) (hK : K (.int .i64 (IntKind.i64.wrap (l.length - a))) h) : AC Try.prog W0 (n + 1) 16 [rdrP W0 j] h K := by
  refine AC_go Try.func16 rfl (by decide) Try.ntmps16 Try.results16 rfl fun Q hq _ => ?_
  obtain ⟨p, c, rfl⟩ := hs.len
  unfold Rdr at hr
  unfold rdrP
  repeat (simp only [↓reduceIte, go_sem]; with_reducible refine lk_out ?_)
  try simp only [↓reduceIte, go_sem]
  refine awp_draw [0, 1, 2, 3, 4, 5, 6, 7, 8, 9, 10] mixed (by kernel_rfl) ?_
  with_reducible first | refine lw_out ?_ | refine lw_out0 ?_ | skip
  try simp only [↓reduceIte, go_sem, hr]
  with_reducible refine lk_out ?_
  with_reducible first | refine lw_out ?_ | refine lw_out0 ?_ | skip
  try simp only [↓reduceIte, go_sem]
  refine hq _ _ ?_
  simp only [↓reduceIte, go_sem]
  exact hK
theorem SlG.new {α : Type} {f : α → Value} {W0 : World} {h : Hp} {e : TypeId} {n : Nat} {xs : List α} (hn : n = xs.length) : SlG W0 (h ++ [.cells e (xs.map f)]) 1 (E1 f) (.slice (some ⟨W0.heap.size + h.length, 0, none⟩) n n) xs := by
  refine Own.sl1 (e := e) (n := n) ?_
  exact .blk (by simp) (by simp [hn])
/-- A fresh row of bytes: nil, or a block behind h. -/
def Fresh (W0 : World) (h h' : Hp) (v : Value) (l : List Int) : Prop := Own W0 h' 5 1 v l.length (l.map (Value.int .u8)) ∧ ∀ j, ownAt W0 v j → h.length ≤ j
theorem clone_ac {n : Nat} {W0 : World} {h : Hp} {v : Value} {l : List Int} {K : Value → Hp → Prop} (hs : SlI W0 h .u8 v l) (hl : l.length ≤ 140737488355328) (hK : ∀ v h', Ext h h' → Fresh W0 h h' v l → K v h') : AC Try.prog W0 (n + 1) 23 [v] h K := by
  refine AC_go Try.func23 rfl (by decide) Try.ntmps23 Try.results23 rfl fun Q hq _ => ?_
  obtain ⟨a, c, rfl⟩ := hs.len
  repeat (simp only [↓reduceIte, go_sem]; with_reducible refine lk_out ?_)
  try simp only [↓reduceIte, go_sem]
  refine wBin_snil Try.underlying23 ?_
  with_reducible first | refine lw_out ?_ | refine lw_out0 ?_ | skip
  try simp only [↓reduceIte, go_sem]
  with_reducible refine lk_out ?_
  with_reducible first | refine lw_out ?_ | refine lw_out0 ?_ | skip
  try simp only [↓reduceIte, go_sem]
  split
  · rename_i hn
    repeat (simp only [↓reduceIte, go_sem]; with_reducible refine lk_out ?_)
    with_reducible first | refine lw_out ?_ | refine lw_out0 ?_ | skip
    try simp only [↓reduceIte, go_sem]
    refine hq _ _ ?_
    simp only [↓reduceIte, go_sem]
    have := (hs.okA).2 hn
    subst this
    exact hK _ _ (Ext.refl _) ⟨.nil, fun j ⟨_, _, he⟩ => by cases he⟩
  · with_reducible first | refine lw_out ?_ | refine lw_out0 ?_ | skip
    try simp only [↓reduceIte, go_sem]
    with_reducible refine lk_out ?_
    try simp only [↓reduceIte, go_sem]
    refine wBuildS_ones stB [] rfl rfl (by omega) (by simp) ?_
    with_reducible first | refine lw_out ?_ | refine lw_out0 ?_ | skip
    try simp only [↓reduceIte, go_sem]
    refine wAppend_own (cs := []) (l := 0) stB (.blk (j := h.length) (by simp) rfl) (newsO_sl Try.underlying23 (hs.ext (Ext.push _ _))) (by omega) (by omega) fun v h' hO' hE' hj' _ _ => ?_
    with_reducible first | refine lw_out ?_ | refine lw_out0 ?_ | skip
    try simp only [↓reduceIte, go_sem]
    with_reducible refine lk_out ?_
    with_reducible first | refine lw_out ?_ | refine lw_out0 ?_ | skip
    try simp only [↓reduceIte, go_sem]
    refine hq _ _ ?_
    simp only [↓reduceIte, go_sem]
    refine hK _ _ (hE' h (Ext.push _ _) fun j ⟨_, _, he⟩ => ?_) ⟨?_, fun j ho => ?_⟩
    · injection he with he; injection he with he; injection he with he; omega
    · simpa using hO'
    · have := hj' j ho; rw [List.length_append] at this; omega
/-- What a reader gives: what is read, how far it is, and whether it is short. -/
def rdBytes (l : List Int) (a : Nat) (b : Bool) (n : Int) : List Int × Nat × Bool := if b = true ∨ (l.length : Int) - a < n then ([], a, true) else ((l.drop a).take n.toNat, a + n.toNat, false)
theorem bytes_ac {n : Nat} {W0 : World} {h : Hp} {j : Nat} {s : Value} {a : Nat} {b : Bool} {l : List Int} {m : Int} {K : Value → Hp → Prop} (hr : Rdr W0 h j s a b) (hs : SlI W0 h .u8 s l) (hoff : offS (· = j) W0 s) (ha : a ≤ l.length) (hl : l.length ≤ 140737488355328)
    (hK : ∀ v h', Kp (· = j) h h' → Fresh W0 h h' v (rdBytes l a b m).1 → Rdr W0 h' j s (rdBytes l a b m).2.1 (rdBytes l a b m).2.2 → SlI W0 h' .u8 s l → K v h') : AC Try.prog W0 (n + 2) 20 [rdrP W0 j, .int .i64 m] h K := by
  refine AC_go Try.func20 rfl (by decide) Try.ntmps20 Try.results20 rfl fun Q hq _ => ?_
  have hr' := hr
  unfold Rdr at hr'
  have em : (if (0 : Int) > m then 0 else m) = ((m.toNat : Nat) : Int) := by split <;> omega
  have hlen := hs.len
  obtain ⟨p, c, rfl⟩ := hlen
  unfold rdrP
  cases b with
  | true =>
    repeat (simp only [↓reduceIte, go_sem, hr', em]; with_reducible refine lk_out ?_)
    with_reducible first | refine lw_out ?_ | refine lw_out0 ?_ | skip
    try simp only [↓reduceIte, go_sem]
    refine hq _ _ ?_
    simp only [↓reduceIte, go_sem]
    refine hK _ _ (Kp.setj _ _ _) ⟨by unfold rdBytes; rw [if_pos (.inl rfl)]; exact .nil, fun j ⟨_, _, he⟩ => by cases he⟩ ?_ ((SlG.kp (Kp.setj h j _) hs hoff))
    unfold Rdr rdBytes
    rw [if_pos (.inl rfl)]
    exact blkO_set (by rw [hr']; rfl)
  | false =>
    repeat (simp only [↓reduceIte, go_sem, hr', em]; with_reducible refine lk_out ?_)
    try simp only [↓reduceIte, go_sem, hr', em]
    refine left_ac (a := (a : Int)) (b := false) (s := .slice p l.length c) hr hs ?_
    rw [wrap_i64 (by omega) (by omega)]
    with_reducible first | refine lw_out ?_ | refine lw_out0 ?_ | skip
    try simp only [↓reduceIte, go_sem, hr', em]
    with_reducible refine lk_out ?_
    try simp only [↓reduceIte, go_sem, hr', em]
    split
    · rename_i hgt
      with_reducible refine lk_out ?_
      repeat (simp only [↓reduceIte, go_sem, hr', em]; with_reducible refine lk_out ?_)
      with_reducible first | refine lw_out ?_ | refine lw_out0 ?_ | skip
      try simp only [↓reduceIte, go_sem]
      refine hq _ _ ?_
      simp only [↓reduceIte, go_sem]
      have hcond : ((false = true) ∨ (l.length : Int) - a < m) := .inr (by omega)
      refine hK _ _ (Kp.setj _ _ _) ⟨by unfold rdBytes; rw [if_pos hcond]; exact .nil, fun j ⟨_, _, he⟩ => by cases he⟩ ?_ ((SlG.kp (Kp.setj h j _) hs hoff))
      unfold Rdr rdBytes
      rw [if_pos hcond]
      exact blkO_set (by rw [hr']; rfl)
    · rename_i hgt
      with_reducible refine lk_out ?_
      repeat (simp only [↓reduceIte, go_sem, hr', em]; with_reducible refine lk_out ?_)
      try simp only [↓reduceIte, go_sem, em]
      have hcond : ¬ ((false = true) ∨ (l.length : Int) - a < m) := by
        rintro (h1 | h1)
        · cases h1
        · omega
      rw [wrap_i64 (by omega) (by omega)]
      have hbs : blkO (h.set j (.cells 46 [.slice p l.length c, .int .i64 ((a : Int) + m.toNat), .bool false])) j = some (46, [.slice p l.length c, .int .i64 ((a : Int) + m.toNat), .bool false]) := blkO_set (by rw [hr']; rfl)
      refine awp_draw [0, 1, 2, 3, 4, 5, 6, 7, 8, 9, 10, 11, 12, 13, 14, 15, 16] mixed (by kernel_rfl) ?_
      try simp only [↓reduceIte, go_sem, hbs]
      rw [wrap_i64 (by omega) (by omega), show (a : Int) + m.toNat - m.toNat = a by omega]
      have hsk := SlG.kp (Kp.setj h j (.cells 46 [.slice p l.length c, .int .i64 ((a : Int) + m.toNat), .bool false])) hs hoff
      refine hsk.drop_take (l := (a : Int)) (r := (a : Int) + m.toNat) (by omega) Try.underlying23 szB (by rfl) (by rfl) (by omega) (by omega) (by omega) fun v hv => ?_
      with_reducible first | refine lw_out ?_ | refine lw_out0 ?_ | skip
      try simp only [↓reduceIte, go_sem]
      refine clone_ac (l := (l.drop a).take m.toNat) ?_ ?_ fun v' h' hE' hF' => ?_
      · have e1 : ((l.take ((a : Int) + m.toNat).toNat).drop (a : Int).toNat) = (l.drop a).take m.toNat := by
          rw [show ((a : Int) + m.toNat).toNat = a + m.toNat by omega, Int.toNat_natCast, List.drop_take, Nat.add_sub_cancel_left]
        rw [e1] at hv
        exact hv
      · rw [List.length_take, List.length_drop]; omega
      · with_reducible first | refine lw_out ?_ | refine lw_out0 ?_ | skip
        try simp only [↓reduceIte, go_sem]
        with_reducible refine lk_out ?_
        with_reducible first | refine lw_out ?_ | refine lw_out0 ?_ | skip
        try simp only [↓reduceIte, go_sem]
        refine hq _ _ ?_
        simp only [↓reduceIte, go_sem]
        refine hK _ _ ((Kp.setj _ _ _).trans (.of_ext hE')) ?_ ?_ (hsk.ext hE')
        · unfold rdBytes; rw [if_neg hcond]
          refine ⟨hF'.1, fun i hi => ?_⟩
          have := hF'.2 i hi
          rw [List.length_set] at this
          exact this
        · unfold Rdr rdBytes
          rw [if_neg hcond]
          have := blkO_kp (S := fun _ => False) (.of_ext hE') (fun h => h) hbs
          rw [this]
          simp
end Go.Proofs.Ytbcfpfjdleplhaa.Little
