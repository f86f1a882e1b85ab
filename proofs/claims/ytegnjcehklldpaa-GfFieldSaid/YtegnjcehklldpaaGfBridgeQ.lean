/- What the printed functions of layer 1 (and the reference's) compute, as the field's functions over natural numbers. -/
import Derived.OpenShut
import Derived.Test.YtegnjcehklldpaaGfMath
import Derived.Test.YtegnjcehklldpaaQ1
set_option linter.unusedVariables false
namespace Go.Proofs.Ytegnjcehklldpaa.GfBridgeQ
open Go.RowKit Go.Proofs.Ytegnjcehklldpaa.Q Go.Proofs.YtegnjcehklldpaaW.PrintWords Go.Proofs.YtegnjcehklldpaaW.PrintLast Go.Proofs.YtegnjcehklldpaaW.PrintMore Go.Proofs.Ytegnjcehklldpaa.GfMath

theorem byte_of {x : Int} (h : (Lit.int .u8 x).wf = true) : ∃ n : Nat, x = (n : Int) ∧ n < 256 := by
  have hb := bounds_u8 h
  exact ⟨x.toNat, by omega, by omega⟩
theorem and128 {a : Nat} (h : a < 256) : Go.bits .and .u8 (a : Int) 128 = ((a &&& 128 : Nat) : Int) := u8_and_nat a 128 h (by omega)
theorem and1 {a : Nat} (h : a < 256) : Go.bits .and .u8 (a : Int) 1 = ((a % 2 : Nat) : Int) := by
  rw [show (1 : Int) = ((1 : Nat) : Int) from rfl, u8_and_nat a 1 h (by omega), Nat.and_one_is_mod]
theorem wraps_i64 (n : Int) (h₀ : 0 ≤ n) (h₁ : n < 2 ^ 62) : IntKind.i64.wrap n = n := by rw [IntKind.wrap_i64]; omega
theorem and1_64 {a : Nat} (h : a < 4611686018427387904) : Go.bits .and .i64 (a : Int) 1 = ((a % 2 : Nat) : Int) := by
  have := bits_mask .i64 62 (by decide) wraps_i64 1 (by omega) (a : Int) (by omega) (by omega)
  rw [show (2 : Int) ^ 1 - 1 = 1 from rfl] at this
  rw [this]
  omega
theorem twice_f {a : Nat} (h : a < 256) : gf_twice.f (a : Int) = some ((tw a : Nat) : Int) := by
  unfold gf_twice.f tw
  rw [and128 h]
  by_cases h0 : a &&& 128 = 0
  · rw [if_pos (by omega), if_pos h0]
    congr 1
  · rw [if_neg (by omega), if_neg h0]
    have e : ((a : Int) * 2) % 256 = ((a * 2 % 256 : Nat) : Int) := by omega
    rw [e, show (29 : Int) = ((29 : Nat) : Int) from rfl, u8_xor_nat _ _ (by omega) (by omega)]
theorem mul_l0 : ∀ (j k : Nat) (a b o : Nat), a < 256 → o < 256 → b < 2 ^ j → b < 256 → j < k → gf_Mul.l0 k a b o = some ((o ^^^ mulF j a b : Nat) : Int)
  | j, 0, _, _, _, _, _, _, _, hk => by omega
  | 0, k + 1, a, b, o, _, _, hb, _, _ => by
    have : b = 0 := by simpa using hb
    subst this
    simp [gf_Mul.l0, mulF]
  | j + 1, k + 1, a, b, o, ha, ho, hb, hb2, hk => by
    simp only [gf_Mul.l0]
    by_cases h0 : b = 0
    · subst h0
      rw [if_pos (by omega)]
      have : mulF (j + 1) a 0 = 0 := by
        have : ∀ j a, mulF j a 0 = 0 := by
          intro j
          induction j with
          | zero => intro a; rfl
          | succ j ih => intro a; simp [mulF, ih]
        exact this _ _
      rw [this, Nat.xor_zero]
    · rw [if_neg (by omega), and1 hb2, twice_f ha]
      have e : (b : Int) / 2 = ((b / 2 : Nat) : Int) := by omega
      have hb3 : b / 2 < 2 ^ j := by rw [Nat.pow_succ] at hb; omega
      have u : mulF (j + 1) a b = (if b % 2 = 0 then 0 else a) ^^^ mulF j (tw a) (b / 2) := rfl
      by_cases h1 : b % 2 = 0
      · rw [if_pos (by omega)]
        simp only [Option.bind_some]
        rw [e, mul_l0 j k (tw a) (b / 2) o (tw_lt ha) ho hb3 (by omega) (by omega), u, if_pos h1, Nat.zero_xor]
      · rw [if_neg (by omega)]
        simp only [Option.bind_some]
        rw [e, u8_xor_nat o a ho ha, mul_l0 j k (tw a) (b / 2) (o ^^^ a) (tw_lt ha) (xor_lt ho ha) hb3 (by omega) (by omega), u, if_neg h1, Nat.xor_assoc]
theorem mul_f {k : Nat} (hk : 8 < k) {a b : Nat} (ha : a < 256) (hb : b < 256) : gf_Mul.f k a b = some ((mul a b : Nat) : Int) := by
  unfold gf_Mul.f mul
  have := mul_l0 8 k a b 0 ha (by omega) (by omega) hb hk
  rw [Nat.zero_xor] at this
  exact this
theorem power_l0 : ∀ (j k : Nat) (a n o : Nat), a < 256 → o < 256 → n < 2 ^ j → j ≤ 60 → j + 9 < k → gf_power.l0 k a n o = some ((mul o (pw a n) : Nat) : Int)
  | j, 0, _, _, _, _, _, _, _, hk => by omega
  | 0, k + 1, a, n, o, _, ho, hn, _, _ => by
    have : n = 0 := by simpa using hn
    subst this
    simp [gf_power.l0, pw_zero, mul_one ho]
  | j + 1, k + 1, a, n, o, ha, ho, hn, hj, hk => by
    simp only [gf_power.l0]
    by_cases h0 : n = 0
    · subst h0
      rw [if_neg (by omega), pw_zero, mul_one ho]
    · have hp : 2 ^ (j + 1) ≤ 2 ^ 60 := Nat.pow_le_pow_right (by omega) hj
      have hs : n < 4611686018427387904 := by
        have : (2 : Nat) ^ 60 = 1152921504606846976 := by decide
        omega
      rw [if_pos (by omega), and1_64 hs, mul_f (by omega) ha ha, mul_f (by omega) ho ha]
      have e : (n : Int) / 2 = ((n / 2 : Nat) : Int) := by omega
      have hn3 : n / 2 < 2 ^ j := by rw [Nat.pow_succ] at hn; omega
      simp only [Option.bind_some]
      rw [e]
      by_cases h1 : n % 2 = 0
      · rw [if_pos (by omega), power_l0 j k (mul a a) (n / 2) o (mul_lt ha) ho hn3 (by omega) (by omega), pw_sq ha, show 2 * (n / 2) = n by omega]
      · rw [if_neg (by omega), power_l0 j k (mul a a) (n / 2) (mul o a) (mul_lt ha) (mul_lt ho) hn3 (by omega) (by omega), pw_sq ha]
        congr 2
        rw [← mul_assoc ho ha (pw_lt _ _), mul_comm ha (pw_lt _ _), ← pw_succ ha, show 2 * (n / 2) + 1 = n by omega]
theorem power_f {k : Nat} (hk : 20 < k) {a n : Nat} (ha : a < 256) (hn : n < 256) : gf_power.f k a n = some ((pw a n : Nat) : Int) := by
  unfold gf_power.f
  have := power_l0 8 k a n 1 ha (by omega) (by omega) (by omega) (by omega)
  rw [mul_comm (by omega) (pw_lt _ _), mul_one (pw_lt _ _)] at this
  exact this
theorem inv_f {k : Nat} (hk : 20 < k) {a : Nat} (ha : a < 256) : gf_Inv.f k a = some ((pw a 254 : Nat) : Int) := by
  unfold gf_Inv.f
  have := power_f hk ha (n := 254) (by omega)
  rw [show ((254 : Nat) : Int) = 254 from rfl] at this
  rw [this]
  rfl
theorem div_f {k : Nat} (hk : 20 < k) {a b : Nat} (ha : a < 256) (hb : b < 256) : gf_Div.f k a b = some (if b = 0 then (0, false) else (((mul a (pw b 254) : Nat) : Int), true)) := by
  unfold gf_Div.f
  by_cases h : b = 0
  · rw [if_pos (by omega), if_pos h]
  · rw [if_neg (by omega), if_neg h, inv_f hk hb]
    simp only [Option.bind_some]
    rw [mul_f (by omega) ha (pw_lt _ _)]
    rfl
theorem add_f {a b : Nat} (ha : a < 256) (hb : b < 256) : gf_Add.f a b = some ((a ^^^ b : Nat) : Int) := by
  unfold gf_Add.f
  rw [u8_xor_nat a b ha hb]
/-- The exponent that is taken. -/
theorem expo (n : Int) (h : -9223372036854775808 ≤ n) (h' : n ≤ 9223372036854775807) : Int.tmod (wrap64 ((Int.tmod n 255) + 255)) 255 = (((n % 255).toNat : Nat) : Int) := by
  have h1 : wrap64 ((Int.tmod n 255) + 255) = Int.tmod n 255 + 255 := by
    have := Int.tmod_lt_of_pos n (show (0 : Int) < 255 by omega)
    have := Int.lt_tmod_of_pos n (show (0 : Int) < 255 by omega)
    unfold wrap64
    omega
  rw [h1]
  have h2 := Int.lt_tmod_of_pos n (show (0 : Int) < 255 by omega)
  rw [Int.tmod_eq_emod_of_nonneg (by omega)]
  rw [Int.tmod_eq_emod]
  split <;> omega
theorem pow_f {k : Nat} (hk : 20 < k) {a : Nat} (ha : a < 256) {n : Int} (h : -9223372036854775808 ≤ n) (h' : n ≤ 9223372036854775807) :
    gf_Pow.f k a n = some (if n = 0 then 1 else if a = 0 then 0 else ((pw a (n % 255).toNat : Nat) : Int)) := by
  unfold gf_Pow.f
  by_cases h0 : n = 0
  · rw [if_pos h0, if_pos h0]
  · rw [if_neg h0, if_neg h0]
    by_cases h1 : a = 0
    · rw [if_pos (by omega), if_pos h1]
    · rw [if_neg (by omega), if_neg h1, expo n h h', power_f hk ha (by omega)]
      rfl
/-- Of a byte that isn't 0. -/
theorem pow_ne {k : Nat} (hk : 20 < k) {a : Nat} (ha : a < 256) (h0 : a ≠ 0) {n : Int} (h : -9223372036854775808 ≤ n) (h' : n ≤ 9223372036854775807) :
    gf_Pow.f k a n = some ((pw a (n % 255).toNat : Nat) : Int) := by
  rw [pow_f hk ha h h']
  by_cases h1 : n = 0
  · subst h1
    simp [pw_zero]
  · rw [if_neg h1, if_neg h0]
theorem exp_f {k : Nat} (hk : 20 < k) {n : Int} (h : -9223372036854775808 ≤ n) (h' : n ≤ 9223372036854775807) : gf_Exp.f k n = some ((E (n % 255).toNat : Nat) : Int) := by
  unfold gf_Exp.f
  have h2 := pow_ne hk (a := 2) (by omega) (by omega) h h'
  rw [show ((2 : Nat) : Int) = 2 from rfl] at h2
  rw [h2]
  simp only [Option.bind_some]
  congr 3
  have : (2 : Nat) = E 1 := by decide
  rw [this, pw_E, Nat.one_mul]
theorem log_l0 (m : Nat) (hm : m < 255) : ∀ (d k n : Nat), n + d = m → d < k → gf_Log.l0 k (E m) n (E n) = some (m : Int)
  | _, 0, _, _, hk => by omega
  | 0, k + 1, n, hn, _ => by
    simp only [gf_Log.l0]
    obtain rfl : n = m := by omega
    rw [if_pos rfl]
  | d + 1, k + 1, n, hn, hk => by
    simp only [gf_Log.l0]
    have hne : E n ≠ E m := fun h => by
      have := E_inj h
      rw [Nat.mod_eq_of_lt (by omega), Nat.mod_eq_of_lt hm] at this
      omega
    rw [if_neg (by omega), twice_f (E_lt n)]
    simp only [Option.bind_some]
    have e : wrap64 ((n : Int) + 1) = ((n + 1 : Nat) : Int) := by unfold wrap64; omega
    rw [e]
    exact log_l0 m hm d k (n + 1) (by omega) (by omega)
theorem log_f {k : Nat} (hk : 300 < k) {a : Nat} (ha : a < 256) : gf_Log.f k a = some (if a = 0 then -1 else ((L a : Nat) : Int)) := by
  unfold gf_Log.f
  by_cases h : a = 0
  · rw [if_pos (by omega), if_pos h]
  · rw [if_neg (by omega), if_neg h]
    obtain ⟨m, hm, rfl⟩ := as_E ha h
    rw [L_E hm]
    exact log_l0 m hm m k 0 (by omega) (by omega)
theorem log_E {k : Nat} (hk : 300 < k) {m : Nat} (hm : m < 255) : gf_Log.f k (E m) = some (m : Int) := by
  rw [log_f hk (E_lt m), if_neg (E_ne m), L_E hm]
end Go.Proofs.Ytegnjcehklldpaa.GfBridgeQ
