/- Squares of sums are sums of squares, each byte is one's square, logarithms of inverses are as said: for every two bytes. Conditions: none. -/
import Derived.Test.YtegnjcehklldpaaGfMath
import Derived.Test.YtegnjcehklldpaaGfBridgeQS
import Derived.Test.YtegnjcehklldpaaQS2
set_option linter.unusedVariables false
set_option linter.unusedSimpArgs false
namespace Go.Proofs.Ytegnjcehklldpaa.Pure
open Go.RowKit Go.Proofs.Ytegnjcehklldpaa.QS Go.Proofs.YtegnjcehklldpaaW.PrintWords Go.Proofs.YtegnjcehklldpaaW.PrintLast Go.Proofs.YtegnjcehklldpaaW.PrintMore Go.Proofs.Ytegnjcehklldpaa.GfMath Go.Proofs.Ytegnjcehklldpaa.GfBridgeQS
theorem alive_ : footlockerlaw01_alive.f 1000 = some true := by decide +kernel

theorem GfSquares : footlockerlaw01_GfSquares.Pure := by
  intro a0 a1 h0 h1
  obtain ⟨a, rfl, ha⟩ := byte_of h0
  obtain ⟨b, rfl, hb⟩ := byte_of h1
  have e2 : ∀ c : Nat, c < 256 → gf_Pow.f 1000 c 2 = some ((mul c c : Nat) : Int) := fun c hc => by
    rw [pow_f (by omega) hc (by omega) (by omega), if_neg (by omega)]
    by_cases h : c = 0
    · subst h; rfl
    · rw [if_neg h]
      congr 2
      show pw c 2 = _
      rw [show 2 = 1 + 1 from rfl, pw_add hc, show pw c 1 = c from by rw [pw_succ hc 0, pw_zero, mul_comm (by omega) hc, mul_one hc]]
  have e3 : mul (a ^^^ b) (a ^^^ b) = mul a a ^^^ mul b b := by
    have hx := xor_lt ha hb
    rw [mul_xor, mul_comm hx ha, mul_comm hx hb, mul_xor, mul_xor, mul_comm hb ha, Nat.xor_assoc, ← Nat.xor_assoc (mul a b), Nat.xor_self, Nat.zero_xor]
  have e4 : gf_Pow.f 1000 a 128 = some ((pw a 128 : Nat) : Int) := by
    rw [pow_f (by omega) ha (by omega) (by omega), if_neg (by omega)]
    by_cases h : a = 0
    · subst h; rfl
    · rw [if_neg h]
      rfl
  have e5 : mul (pw a 128) (pw a 128) = a := by
    rw [← pw_add ha]
    by_cases h : a = 0
    · subst h; rfl
    · rw [← pw_mod ha h, show (128 + 128) % 255 = 0 + 1 from rfl, pw_succ ha, pw_zero, mul_comm (by omega) ha, mul_one ha]
  refine ⟨1000, ?_⟩
  unfold footlockerlaw01_GfSquares.f
  rw [alive_]
  simp only [Option.bind_some, if_true]
  rw [add_f ha hb]
  simp only [Option.bind_some, if_true]
  rw [e2 _ (xor_lt ha hb), e2 _ ha, e2 _ hb]
  simp only [Option.bind_some, if_true]
  rw [add_f (mul_lt ha) (mul_lt hb)]
  simp only [Option.bind_some, if_true]
  rw [if_pos (by rw [e3]), e4]
  simp only [Option.bind_some, if_true]
  rw [e2 _ (pw_lt _ _)]
  simp only [Option.bind_some, if_true]
  rw [e5, show ((a : Int) != (a : Int)) = false by simp]
  simp only [footlockerlaw01_GfSquares.j0]
  rw [if_neg (by decide)]
  by_cases h : a = 0
  · rw [if_pos (by omega)]
  · rw [if_neg (by omega), inv_f (by omega) ha]
    simp only [Option.bind_some, if_true]
    obtain ⟨m, hm, rfl⟩ := as_E ha h
    rw [pw_E, ← E_mod (m * 254), log_E (by omega) (Nat.mod_lt _ (by omega)), log_E (by omega) hm, pow_ne (by omega) ha h (by omega) (by omega), pow_ne (by omega) ha h (by omega) (by omega)]
    simp only [Option.bind_some, if_true]
    have e6 : Int.tmod (wrap64 (255 - (m : Int))) 255 = ((m * 254 % 255 : Nat) : Int) := by
      rw [show wrap64 (255 - (m : Int)) = 255 - (m : Int) by unfold wrap64; omega, Int.tmod_eq_emod_of_nonneg (by omega)]
      omega
    rw [if_pos e6.symm, E_mod, show ((-1 : Int) % 255).toNat = 254 from rfl, show ((254 : Int) % 255).toNat = 254 from rfl, pw_E]
    simp

end Go.Proofs.Ytegnjcehklldpaa.Pure
