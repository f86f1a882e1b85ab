/- Sum, product, inverse, quotient, power, exponential and logarithm are as the reference says: for every two bytes and every number. Conditions: none. -/
import Derived.Test.YtegnjcehklldpaaGfMath
import Derived.Test.YtegnjcehklldpaaGfBridgeQ
import Derived.Test.YtegnjcehklldpaaGfRefQ
import Derived.Test.YtegnjcehklldpaaQ3
set_option linter.unusedVariables false
set_option linter.unusedSimpArgs false
namespace Go.Proofs.Ytegnjcehklldpaa.Pure
open Go.RowKit Go.Proofs.Ytegnjcehklldpaa.Q Go.Proofs.YtegnjcehklldpaaW.PrintWords Go.Proofs.YtegnjcehklldpaaW.PrintLast Go.Proofs.YtegnjcehklldpaaW.PrintMore Go.Proofs.Ytegnjcehklldpaa.GfMath Go.Proofs.Ytegnjcehklldpaa.GfBridgeQ Go.Proofs.Ytegnjcehklldpaa.GfRef
theorem alive_ : footlockerlaw01_alive.f 1000 = some true := by decide +kernel

theorem GfBytes : footlockerlaw01_GfBytes.Pure := by
  intro a0 a1 n h0 h1 h2
  obtain ⟨a, rfl, ha⟩ := byte_of h0
  obtain ⟨b, rfl, hb⟩ := byte_of h1
  have hn := bounds_i64 h2
  have hE : ∀ k, 20 < k → gf_Exp.f k n = some ((E (n % 255).toNat : Nat) : Int) := fun k hk => exp_f hk (by omega) (by omega)
  have hR : footlockerref01_Pow.f 999 2 n = some ((E (n % 255).toNat : Nat) : Int) := by
    have := rpow_f (k := 999) (by omega) (a := 2) (by omega) (n := n) (by omega) (by omega)
    rw [show ((2 : Nat) : Int) = 2 from rfl] at this
    rw [this]
    by_cases h : n = 0
    · rw [if_pos h, h]; rfl
    · rw [if_neg h, if_neg (by omega)]
      congr 2
      have : (2 : Nat) = E 1 := by decide
      rw [this, pw_E, Nat.one_mul]
  have tail : footlockerlaw01_GfBytes.j0 1000 a b n (if b = 0 then (0, false) else (((mul a (pw b 254) : Nat) : Int), true)).1 (if b = 0 then ((0 : Int), false) else (((mul a (pw b 254) : Nat) : Int), true)).2 false = some true := by
    simp only [footlockerlaw01_GfBytes.j0]
    rw [if_neg (by decide), rinv_f (by omega) hb]
    simp only [Option.bind_some, if_true]
    rw [rmul_f (by omega) ha (pw_lt _ _), add_f ha hb]
    simp only [Option.bind_some, if_true]
    rw [if_pos (u8_xor_nat a b ha hb).symm, mul_f (by omega) ha hb, rmul_f (by omega) ha hb]
    simp only [Option.bind_some, if_true]
    try rw [if_pos rfl]
    rw [inv_f (by omega) ha, rinv_f (by omega) ha]
    simp only [Option.bind_some, if_true]
    try rw [if_pos rfl]
    rw [pow_f (by omega) ha (by omega) (by omega), rpow_f (by omega) ha (by omega) (by omega), hE _ (by omega), hR]
    simp only [Option.bind_some, if_true]
    by_cases hb0 : b = 0
    · rw [if_pos hb0]
      subst hb0
      simp
    · rw [if_neg hb0]
      have : ((b : Int) != 0) = true := by simp; omega
      simp only [this]
      simp
  refine ⟨1001, ?_⟩
  unfold footlockerlaw01_GfBytes.f
  rw [show footlockerlaw01_alive.f 1001 = some true by decide +kernel]
  simp only [Option.bind_some, if_true]
  rw [div_f (by omega) ha hb, log_f (by omega) ha]
  simp only [Option.bind_some, if_true]
  have tail2 : footlockerlaw01_GfBytes.j0 1001 a b n (if b = 0 then (0, false) else (((mul a (pw b 254) : Nat) : Int), true)).1 (if b = 0 then ((0 : Int), false) else (((mul a (pw b 254) : Nat) : Int), true)).2 false = some true := footlockerlaw01_GfBytes.mono_l 1000 _ _ _ _ _ _ _ tail
  by_cases h : a = 0
  · rw [if_pos (by omega), if_pos h, if_pos rfl]
    exact tail2
  · rw [if_neg (by omega), if_neg h]
    have hl := L_lt ha h
    have hr : footlockerref01_Pow.f 1001 2 ((L a : Nat) : Int) = some (a : Int) := by
      have := rpow_f (k := 1001) (by omega) (a := 2) (by omega) (n := ((L a : Nat) : Int)) (by omega) (by omega)
      rw [show ((2 : Nat) : Int) = 2 from rfl] at this
      rw [this]
      by_cases h3 : L a = 0
      · rw [if_pos (by omega)]
        have := E_L ha h
        rw [h3] at this
        rw [← this]
        rfl
      · rw [if_neg (by omega), if_neg (by omega)]
        congr 2
        have e1 : (2 : Nat) = E 1 := by decide
        rw [e1, pw_E, Nat.one_mul, show (((L a : Nat) : Int) % 255).toNat = L a by omega, E_L ha h]
    rw [if_neg (by omega), if_neg (by omega), hr]
    simp only [Option.bind_some, if_true]
    rw [show ((a : Int) != (a : Int)) = false by simp]
    exact tail2

end Go.Proofs.Ytegnjcehklldpaa.Pure
