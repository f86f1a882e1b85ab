/- Powers' products are powers of the sums, logarithms add up: for every two bytes and two numbers. Conditions: none. -/
import Derived.Test.YtegnjcehklldpaaGfMath
import Derived.Test.YtegnjcehklldpaaGfBridgeQ
import Derived.Test.YtegnjcehklldpaaQ4
set_option linter.unusedVariables false
set_option linter.unusedSimpArgs false
namespace Go.Proofs.Ytegnjcehklldpaa.Pure
open Go.RowKit Go.Proofs.Ytegnjcehklldpaa.Q Go.Proofs.YtegnjcehklldpaaW.PrintWords Go.Proofs.YtegnjcehklldpaaW.PrintLast Go.Proofs.YtegnjcehklldpaaW.PrintMore Go.Proofs.Ytegnjcehklldpaa.GfMath Go.Proofs.Ytegnjcehklldpaa.GfBridgeQ
theorem alive_ : footlockerlaw01_alive.f 1000 = some true := by decide +kernel

theorem GfPowers : footlockerlaw01_GfPowers.Pure := by
  intro a0 a1 a2 a3 h0 h1 h2 h3
  obtain ⟨a, rfl, ha⟩ := byte_of h0
  obtain ⟨b, rfl, hb⟩ := byte_of h1
  obtain ⟨m, hm⟩ : ∃ m, Int.tmod a2 100000 = m := ⟨_, rfl⟩
  obtain ⟨n, hn⟩ : ∃ n, Int.tmod a3 100000 = n := ⟨_, rfl⟩
  have m1 := Int.lt_tmod_of_pos a2 (show (0 : Int) < 100000 by omega)
  have m2 := Int.tmod_lt_of_pos a2 (show (0 : Int) < 100000 by omega)
  have n1 := Int.lt_tmod_of_pos a3 (show (0 : Int) < 100000 by omega)
  have n2 := Int.tmod_lt_of_pos a3 (show (0 : Int) < 100000 by omega)
  rw [hm] at m1 m2
  rw [hn] at n1 n2
  refine ⟨1000, ?_⟩
  unfold footlockerlaw01_GfPowers.f
  rw [alive_, hm, hn]
  simp only [Option.bind_some, if_true]
  by_cases h : a = 0
  · rw [if_pos (by omega), pow_f (by omega) ha (by omega) (by omega)]
    simp only [Option.bind_some, if_true]
    by_cases hm0 : m = 0
    · rw [if_pos hm0, if_neg (by omega), hm0]
      rfl
    · rw [if_neg hm0, if_pos h, if_pos rfl]
  · have p1 : -10000000000 < m * n := by
      have := Int.neg_le_of_neg_le (a := m) (b := 100000) (by omega)
      have h5 : (m * n).natAbs ≤ 100000 * 100000 := by
        rw [Int.natAbs_mul]
        exact Nat.mul_le_mul (by omega) (by omega)
      have h6 : (m * n).natAbs ≠ 10000000000 := by
        intro he
        rw [Int.natAbs_mul] at he
        have : m.natAbs * n.natAbs ≤ 99999 * 99999 := Nat.mul_le_mul (by omega) (by omega)
        omega
      omega
    have p2 : m * n < 10000000000 := by
      have : (m * n).natAbs ≤ 99999 * 99999 := by
        rw [Int.natAbs_mul]
        exact Nat.mul_le_mul (by omega) (by omega)
      omega
    have w1 : wrap64 (m + n) = m + n := by unfold wrap64; omega
    have w2 : wrap64 (m * n) = m * n := by unfold wrap64; omega
    obtain ⟨l, hl, rfl⟩ := as_E ha h
    have q : ∀ (i : Int), -10000000000 < i → i < 10000000000 → gf_Pow.f 1000 (E l) i = some ((E (l * (i % 255).toNat) : Nat) : Int) := fun i h1 h2 => by
      rw [pow_ne (by omega) ha h (by omega) (by omega), pw_E]
    have eS : E (l * (m % 255).toNat + l * (n % 255).toNat) = E (l * ((m + n) % 255).toNat) := by
      rw [← Nat.mul_add, ← E_mod, ← E_mod (l * ((m + n) % 255).toNat), Nat.mul_mod, Nat.mul_mod l ((m + n) % 255).toNat]
      congr 3
      omega
    have eP : E (l * (m % 255).toNat * (n % 255).toNat) = E (l * ((m * n) % 255).toNat) := by
      rw [Nat.mul_assoc, ← E_mod, ← E_mod (l * ((m * n) % 255).toNat), Nat.mul_mod, Nat.mul_mod l ((m * n) % 255).toNat]
      congr 3
      have e1 : (((m % 255).toNat * (n % 255).toNat : Nat) : Int) = (m % 255) * (n % 255) := by
        rw [Int.natCast_mul, Int.toNat_of_nonneg (by omega), Int.toNat_of_nonneg (by omega)]
      have e2 : ((m % 255) * (n % 255)) % 255 = (m * n) % 255 := by rw [← Int.mul_emod]
      omega
    rw [if_neg (by omega), w1, w2, q m (by omega) (by omega), q n (by omega) (by omega), q (m + n) (by omega) (by omega), q (m * n) (by omega) (by omega), q 255 (by omega) (by omega)]
    simp only [Option.bind_some, if_true]
    rw [mul_f (by omega) (E_lt _) (E_lt _), E_add, eS]
    simp only [Option.bind_some, if_true]
    try rw [if_pos rfl]
    rw [pow_ne (by omega) (E_lt _) (E_ne _) (by omega) (by omega), pw_E, eP]
    simp only [Option.bind_some, if_true]
    try rw [if_pos rfl]
    simp only [footlockerlaw01_GfPowers.j0]
    rw [show l * ((255 : Int) % 255).toNat = 0 from Nat.mul_zero l]
    rw [if_neg (by decide)]
    by_cases hb0 : b = 0
    · rw [if_pos (by omega)]
    · rw [if_neg (by omega)]
      obtain ⟨i, hi, rfl⟩ := as_E hb hb0
      rw [mul_f (by omega) (E_lt _) (E_lt _), E_add, log_E (by omega) hl, log_E (by omega) hi]
      simp only [Option.bind_some, if_true]
      rw [← E_mod, log_E (by omega) (Nat.mod_lt _ (by omega))]
      simp only [Option.bind_some, if_true]
      have e6 : Int.tmod (wrap64 ((l : Int) + i)) 255 = (((l + i) % 255 : Nat) : Int) := by
        rw [show wrap64 ((l : Int) + i) = (l : Int) + i by unfold wrap64; omega, Int.tmod_eq_emod_of_nonneg (by omega)]
        omega
      rw [e6]
      simp

end Go.Proofs.Ytegnjcehklldpaa.Pure
