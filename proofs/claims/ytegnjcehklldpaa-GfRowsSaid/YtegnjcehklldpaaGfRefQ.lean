/- What the reference's product, power and inverse of layer 1 compute: the same as the field's. -/
import Derived.Test.YtegnjcehklldpaaGfBridgeQ
import Derived.Test.YtegnjcehklldpaaQ2
set_option linter.unusedVariables false
namespace Go.Proofs.Ytegnjcehklldpaa.GfRef
open Go.RowKit Go.Proofs.Ytegnjcehklldpaa.Q Go.Proofs.YtegnjcehklldpaaW.PrintWords Go.Proofs.YtegnjcehklldpaaW.PrintLast Go.Proofs.YtegnjcehklldpaaW.PrintMore Go.Proofs.Ytegnjcehklldpaa.GfMath Go.Proofs.Ytegnjcehklldpaa.GfBridgeQ

/-- The product without what is left of it: from bit i of the second on. -/
def cl (a b : Nat) : Nat → Nat → Nat
  | 0, _ => 0
  | d + 1, i => (if b.testBit i = true then a * 2 ^ i else 0) ^^^ cl a b d (i + 1)
/-- A step of what is left. -/
def st (j p : Nat) : Nat := if p.testBit j = true then p ^^^ (285 * 2 ^ (j - 8)) else p
/-- What is left, from bit 7 + d down. -/
def rd_ : Nat → Nat → Nat
  | 0, p => p % 256
  | d + 1, p => rd_ d (st (d + 8) p)
theorem cl_xor (a b c : Nat) : ∀ d i, cl a (b ^^^ c) d i = cl a b d i ^^^ cl a c d i
  | 0, _ => by simp [cl]
  | d + 1, i => by
    unfold cl
    rw [cl_xor a b c d, xor4, Nat.testBit_xor]
    congr 1
    cases b.testBit i <;> cases c.testBit i <;> simp
theorem st_xor (j p q : Nat) : st j (p ^^^ q) = st j p ^^^ st j q := by
  unfold st
  rw [Nat.testBit_xor]
  cases p.testBit j <;> cases q.testBit j <;> simp
  · rw [Nat.xor_assoc]
  · rw [Nat.xor_assoc, Nat.xor_assoc, Nat.xor_comm q]
  · rw [Nat.xor_assoc p, ← Nat.xor_assoc (285 * _), Nat.xor_comm (285 * _) q, Nat.xor_assoc q, Nat.xor_self, Nat.xor_zero]
theorem rd_xor : ∀ d p q, rd_ d (p ^^^ q) = rd_ d p ^^^ rd_ d q
  | 0, p, q => by
    unfold rd_
    exact Nat.xor_mod_two_pow (n := 8)
  | d + 1, p, q => by
    unfold rd_
    rw [st_xor, rd_xor d]
theorem ref_eq {a b : Nat} (ha : a < 256) (hb : b < 256) : rd_ 7 (cl a b 8 0) = mul a b := by
  refine linear_ext (fun b => rd_ 7 (cl a b 8 0)) (fun b => mul a b) (fun b c _ _ => ?_) (fun b c _ _ => mul_xor a b c) ?_ ?_ hb
  · show rd_ 7 (cl a (b ^^^ c) 8 0) = _
    rw [cl_xor, rd_xor]
  · have : ∀ a, a < 256 → rd_ 7 (cl a 0 8 0) = mul a 0 := by decide +kernel
    exact this a ha
  · have : ∀ a, a < 256 → ∀ i, i < 8 → rd_ 7 (cl a (2 ^ i) 8 0) = mul a (2 ^ i) := by decide +kernel
    exact this a ha
theorem bit_test (b i : Nat) : b / 2 ^ i % 2 = 1 ↔ b.testBit i = true := by
  rw [Nat.testBit_eq_decide_div_mod_eq]
  simp
theorem i64_xor_nat (a b : Nat) (ha : a < 4611686018427387904) (hb : b < 4611686018427387904) : Go.bits .xor .i64 (a : Int) (b : Int) = ((a ^^^ b : Nat) : Int) := by
  have hx : a ^^^ b < 2 ^ 62 := Nat.xor_lt_two_pow (by omega) (by omega)
  show IntKind.i64.wrap ((BitVec.ofInt 64 (a : Int) ^^^ BitVec.ofInt 64 (b : Int)).toNat : Int) = _
  rw [BitVec.toNat_xor, BitVec.ofInt_natCast, BitVec.ofInt_natCast, BitVec.toNat_ofNat, BitVec.toNat_ofNat, Nat.mod_eq_of_lt (by omega), Nat.mod_eq_of_lt (by omega)]
  rw [wraps_i64] <;> omega
theorem st_lt {j p : Nat} (hj : j < 15) (h8 : 8 ≤ j) (hp : p < 32768) : st j p < 32768 := by
  unfold st
  split
  · refine Nat.xor_lt_two_pow (n := 15) hp ?_
    have : 2 ^ (j - 8) ≤ 2 ^ 6 := Nat.pow_le_pow_right (by omega) (by omega)
    omega
  · exact hp
theorem ref_l1 : ∀ (d k p : Nat), d ≤ 7 → p < 32768 → d < k → footlockerref01_Mul.l1 k p ((d + 7 : Nat) : Int) = some ((rd_ d p : Nat) : Int)
  | _, 0, _, _, _, hk => by omega
  | 0, k + 1, p, _, hp, _ => by
    simp only [footlockerref01_Mul.l1]
    rw [if_neg (by omega)]
    unfold rd_
    congr 1
  | d + 1, k + 1, p, hd, hp, hk => by
    simp only [footlockerref01_Mul.l1]
    rw [if_pos (by omega), if_pos (by omega)]
    have e1 : wrap64 (((d + 1 + 7 : Nat) : Int) - 1) = ((d + 7 : Nat) : Int) := by unfold wrap64; omega
    have e2 : wrap64 (((d + 1 + 7 : Nat) : Int) - 8) = (d : Int) := by unfold wrap64; omega
    have e3 : shr .i64 (p : Int) ((d + 1 + 7 : Nat) : Int) = ((p / 2 ^ (d + 8) : Nat) : Int) := by
      unfold shr
      rw [Int.toNat_natCast, show min (d + 1 + 7) IntKind.i64.bits = d + 8 from Nat.min_eq_left (by show d + 8 ≤ 64; omega)]
      rw [Int.natCast_ediv, Int.natCast_pow]
      rfl
    have e4 : shl .i64 285 (d : Int) = ((285 * 2 ^ d : Nat) : Int) := by
      unfold shl
      have hpw : 2 ^ d ≤ 2 ^ 6 := Nat.pow_le_pow_right (by omega) (by omega)
      rw [Int.toNat_natCast, show min d IntKind.i64.bits = d from Nat.min_eq_left (by show d ≤ 64; omega)]
      rw [show (285 : Int) * 2 ^ d = ((285 * 2 ^ d : Nat) : Int) by rw [Int.natCast_mul, Int.natCast_pow]; rfl]
      exact wraps_i64 _ (by omega) (by omega)
    rw [e1, e2, e3]
    have e5 : Int.tmod ((p / 2 ^ (d + 8) : Nat) : Int) 2 = ((p / 2 ^ (d + 8) % 2 : Nat) : Int) := by
      rw [Int.tmod_eq_emod_of_nonneg (Int.natCast_nonneg _)]
      rfl
    rw [e5]
    have hpw : 2 ^ d ≤ 2 ^ 6 := Nat.pow_le_pow_right (by omega) (by omega)
    have u : rd_ (d + 1) p = rd_ d (st (d + 8) p) := rfl
    by_cases h : p.testBit (d + 8) = true
    · have h' : ((p / 2 ^ (d + 8) % 2 : Nat) : Int) = 1 := congrArg Int.ofNat ((bit_test p (d + 8)).2 h)
      rw [if_pos h', if_pos (Int.natCast_nonneg _), e4, i64_xor_nat p _ (by omega) (by omega), u]
      have hs : st (d + 8) p = p ^^^ (285 * 2 ^ d) := by
        unfold st
        rw [if_pos h, show d + 8 - 8 = d by omega]
      rw [hs]
      refine ref_l1 d k _ (by omega) ?_ (by omega)
      rw [← hs]
      exact st_lt (by omega) (by omega) hp
    · have h' : ¬ ((p / 2 ^ (d + 8) % 2 : Nat) : Int) = 1 := fun e => h ((bit_test p (d + 8)).1 (Int.ofNat.inj e))
      rw [if_neg h', u]
      have hs : st (d + 8) p = p := by
        unfold st
        rw [if_neg h]
      rw [hs]
      exact ref_l1 d k p (by omega) hp (by omega)
theorem ref_l0 {a b : Nat} (ha : a < 256) (hb : b < 256) : ∀ (d k i p : Nat), d + i = 8 → p < 32768 → d + 8 < k → footlockerref01_Mul.l0 k a b p i = some ((rd_ 7 (p ^^^ cl a b d i) : Nat) : Int)
  | _, 0, _, _, _, _, hk => by omega
  | 0, k + 1, i, p, hd, hp, hk => by
    simp only [footlockerref01_Mul.l0]
    rw [if_neg (by omega)]
    unfold cl
    rw [Nat.xor_zero]
    exact ref_l1 7 k p (by omega) hp (by omega)
  | d + 1, k + 1, i, p, hd, hp, hk => by
    simp only [footlockerref01_Mul.l0]
    rw [if_pos (by omega), if_pos (by omega)]
    have e1 : wrap64 ((i : Int) + 1) = ((i + 1 : Nat) : Int) := by unfold wrap64; omega
    have e3 : shr .u8 (b : Int) (i : Int) = ((b / 2 ^ i : Nat) : Int) := by
      unfold shr
      rw [Int.toNat_natCast, show min i IntKind.u8.bits = i from Nat.min_eq_left (by show i ≤ 8; omega)]
      rw [Int.natCast_ediv, Int.natCast_pow]
      rfl
    have hpw : 2 ^ i ≤ 2 ^ 7 := Nat.pow_le_pow_right (by omega) (by omega)
    have hm : a * 2 ^ i ≤ 32640 := Nat.le_trans (Nat.mul_le_mul (show a ≤ 255 by omega) hpw) (by decide)
    have e4 : shl .i64 (wrap64 (a : Int)) (i : Int) = ((a * 2 ^ i : Nat) : Int) := by
      unfold shl
      rw [Int.toNat_natCast, show min i IntKind.i64.bits = i from Nat.min_eq_left (by show i ≤ 64; omega)]
      rw [show wrap64 (a : Int) = (a : Int) by unfold wrap64; omega]
      rw [show (a : Int) * 2 ^ i = ((a * 2 ^ i : Nat) : Int) by rw [Int.natCast_mul, Int.natCast_pow]; rfl]
      exact wraps_i64 _ (by omega) (by omega)
    rw [e1, e3]
    have e5 : Int.tmod ((b / 2 ^ i : Nat) : Int) 2 = ((b / 2 ^ i % 2 : Nat) : Int) := by
      rw [Int.tmod_eq_emod_of_nonneg (Int.natCast_nonneg _)]
      rfl
    rw [e5]
    have u : cl a b (d + 1) i = (if b.testBit i = true then a * 2 ^ i else 0) ^^^ cl a b d (i + 1) := rfl
    by_cases h : b.testBit i = true
    · have h' : ((b / 2 ^ i % 2 : Nat) : Int) = 1 := congrArg Int.ofNat ((bit_test b i).2 h)
      rw [if_pos h', e4, u, if_pos h]
      clear e1 e3 e4 e5 hpw h' h u
      generalize a * 2 ^ i = t at hm ⊢
      have h1 : p < 4611686018427387904 := Nat.lt_of_lt_of_le hp (by decide)
      have h2 : t < 4611686018427387904 := Nat.lt_of_le_of_lt hm (by decide)
      have h3 : p ^^^ t < 32768 := Nat.xor_lt_two_pow (n := 15) hp (Nat.lt_of_le_of_lt hm (by decide))
      rw [i64_xor_nat p t h1 h2, ← Nat.xor_assoc]
      clear h1 h2
      exact ref_l0 ha hb d k (i + 1) _ (by omega) h3 (by omega)
    · have h' : ¬ ((b / 2 ^ i % 2 : Nat) : Int) = 1 := fun e => h ((bit_test b i).1 (Int.ofNat.inj e))
      rw [if_neg h', u, if_neg h, Nat.zero_xor]
      clear e1 e3 e4 e5 hm hpw h' h u
      exact ref_l0 ha hb d k (i + 1) p (by omega) hp (by omega)
theorem rmul_f {k : Nat} (hk : 20 < k) {a b : Nat} (ha : a < 256) (hb : b < 256) : footlockerref01_Mul.f k a b = some ((mul a b : Nat) : Int) := by
  unfold footlockerref01_Mul.f
  have := ref_l0 ha hb 8 k 0 0 (by omega) (by omega) (by omega)
  rw [Nat.zero_xor, ref_eq ha hb] at this
  exact this
theorem rpow_l0 {a n : Nat} (ha : a < 256) (hn : n < 256) : ∀ (d k i : Nat), d + i = n → d + 20 < k → footlockerref01_Pow.l0 k a n (pw a i : Nat) i = some ((pw a n : Nat) : Int)
  | _, 0, _, _, hk => by omega
  | 0, k + 1, i, hd, hk => by
    simp only [footlockerref01_Pow.l0]
    obtain rfl : i = n := by omega
    rw [if_neg (by omega)]
  | d + 1, k + 1, i, hd, hk => by
    simp only [footlockerref01_Pow.l0]
    rw [if_pos (by omega), rmul_f (by omega) (pw_lt _ _) ha]
    simp only [Option.bind_some]
    rw [← pw_succ ha, show wrap64 ((i : Int) + 1) = ((i + 1 : Nat) : Int) by unfold wrap64; omega]
    exact rpow_l0 ha hn d k (i + 1) (by omega) (by omega)
theorem rpow_j0 {k : Nat} (hk : 300 < k) {a n : Nat} (ha : a < 256) (hn : n < 256) : footlockerref01_Pow.j0 k a n = some ((pw a n : Nat) : Int) := by
  obtain ⟨k, rfl⟩ : ∃ m, k = m + 1 := ⟨k - 1, by omega⟩
  simp only [footlockerref01_Pow.j0]
  have := rpow_l0 ha hn n k 0 (by omega) (by omega)
  rw [pw_zero] at this
  exact this
theorem rpow_f {k : Nat} (hk : 300 < k) {a : Nat} (ha : a < 256) {n : Int} (h : -9223372036854775808 ≤ n) (h' : n ≤ 9223372036854775807) :
    footlockerref01_Pow.f k a n = some (if n = 0 then 1 else if a = 0 then 0 else ((pw a (n % 255).toNat : Nat) : Int)) := by
  unfold footlockerref01_Pow.f
  by_cases h0 : n = 0
  · rw [if_pos h0, if_pos h0]
  · rw [if_neg h0, if_neg h0]
    by_cases h1 : a = 0
    · rw [if_pos (by omega), if_pos h1]
    · rw [if_neg (by omega), if_neg h1]
      have h2 := Int.lt_tmod_of_pos n (show (0 : Int) < 255 by omega)
      have h3 := Int.tmod_lt_of_pos n (show (0 : Int) < 255 by omega)
      have h4 := Int.tmod_eq_emod (a := n) (b := 255)
      by_cases hn : Int.tmod n 255 < 0
      · have e : wrap64 (Int.tmod n 255 + 255) = (((n % 255).toNat : Nat) : Int) := by
          unfold wrap64
          split at h4 <;> omega
        rw [if_pos hn, e, rpow_j0 hk ha (by omega)]
      · have e : Int.tmod n 255 = (((n % 255).toNat : Nat) : Int) := by
          split at h4 <;> omega
        rw [if_neg hn, e, rpow_j0 hk ha (by omega)]
theorem rinv_l0 {a : Nat} (ha : a < 256) : ∀ (d k i : Nat), d + i = 256 → 1 ≤ i → (∀ j, 1 ≤ j → j < i → mul a j ≠ 1) → d + 20 < k → footlockerref01_Inv.l0 k a i = some ((pw a 254 : Nat) : Int)
  | _, 0, _, _, _, _, hk => by omega
  | 0, k + 1, i, hd, h1, hj, hk => by
    simp only [footlockerref01_Inv.l0]
    rw [if_neg (by omega)]
    by_cases h : a = 0
    · subst h
      rfl
    · have h2 := hj (pw a 254) (by
        have : pw a 254 ≠ 0 := by
          obtain ⟨m, _, rfl⟩ := as_E ha h
          rw [pw_E]
          exact E_ne _
        omega) (by have := pw_lt a 254; omega)
      exact absurd (inv_mul ha h) h2
  | d + 1, k + 1, i, hd, h1, hj, hk => by
    simp only [footlockerref01_Inv.l0]
    have e : (i : Int) % 256 = (i : Int) := by omega
    rw [if_pos (by omega), e, rmul_f (by omega) ha (by omega)]
    simp only [Option.bind_some]
    by_cases h : mul a i = 1
    · rw [if_pos (by omega), inv_unique ha (by omega) h]
    · rw [if_neg (by omega), show wrap64 ((i : Int) + 1) = ((i + 1 : Nat) : Int) by unfold wrap64; omega]
      refine rinv_l0 ha d k (i + 1) (by omega) (by omega) (fun j h2 h3 => ?_) (by omega)
      by_cases hji : j = i
      · rw [hji]
        exact h
      · exact hj j h2 (by omega)
theorem rinv_f {k : Nat} (hk : 300 < k) {a : Nat} (ha : a < 256) : footlockerref01_Inv.f k a = some ((pw a 254 : Nat) : Int) := by
  unfold footlockerref01_Inv.f
  exact rinv_l0 ha 255 k 1 (by omega) (by omega) (fun j h1 h2 => by omega) (by omega)
end Go.Proofs.Ytegnjcehklldpaa.GfRef
