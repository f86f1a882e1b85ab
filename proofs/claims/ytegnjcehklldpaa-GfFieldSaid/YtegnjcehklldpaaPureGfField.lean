/- It is a field: of every three bytes sums and products go in any order, and one by the other; each byte but 0 has an inverse. Conditions: none. -/
import Derived.Test.YtegnjcehklldpaaGfMath
import Derived.Test.YtegnjcehklldpaaGfBridgeQ
import Derived.Test.YtegnjcehklldpaaGfFieldWalk
set_option linter.unusedVariables false
set_option linter.unusedSimpArgs false
namespace Go.Proofs.Ytegnjcehklldpaa.Pure
open Go.RowKit Go.Proofs.Ytegnjcehklldpaa.Q Go.Proofs.YtegnjcehklldpaaW.PrintWords Go.Proofs.YtegnjcehklldpaaW.PrintLast Go.Proofs.YtegnjcehklldpaaW.PrintMore Go.Proofs.Ytegnjcehklldpaa.GfMath Go.Proofs.Ytegnjcehklldpaa.GfBridgeQ
theorem alive_ : footlockerlaw01_alive.f 1000 = some true := by decide +kernel
theorem field_walk (a0 a1 a2 : Int) (w : World) (h0 : (Lit.int .u8 a0).wf = true) (h1 : (Lit.int .u8 a1).wf = true) (h2 : (Lit.int .u8 a2).wf = true) :
    Calls Try.prog 5 #[.int .u8 a0, .int .u8 a1, .int .u8 a2] w fun e w' => e = .returned (.bool true) ∧ Below w.heap.size w w' := by
  obtain ⟨a, rfl, ha⟩ := byte_of h0
  obtain ⟨b, rfl, hb⟩ := byte_of h1
  obtain ⟨c, rfl, hc⟩ := byte_of h2
  have hab := @mul_lt a b ha
  have m1 := mul_f (k := 1000) (by omega) ha hb
  have m2 := mul_f (k := 1000) (by omega) hb ha
  have m3 := mul_f (k := 1000) (by omega) hb hc
  have m4 := mul_f (k := 1000) (by omega) ha (@mul_lt b c hb)
  have m5 := mul_f (k := 1000) (by omega) hab hc
  have a6 := add_f hb hc
  have m7 := mul_f (k := 1000) (by omega) ha (xor_lt hb hc)
  have m8 := mul_f (k := 1000) (by omega) ha hc
  have a9 := add_f hab (@mul_lt a c ha)
  have m10 := mul_f (k := 1000) (by omega) ha (show 1 < 256 by omega)
  have i11 := inv_f (k := 1000) (by omega) ha
  rw [mul_comm hb ha] at m2
  rw [mul_assoc ha hb hc] at m4
  rw [mul_xor] at m7
  rw [mul_one ha] at m10
  by_cases h : a = 0
  · subst h
    rw [zero_mul hb] at m1 m2 m5 a9
    have i0 : gf_Inv.f 1000 ((0 : Nat) : Int) = some 0 := i11
    rw [zero_mul hb] at m4 m7
    exact GfFieldWalk.zero _ _ 0 _ _ _ _ _ 0 0 0 w alive_ m1 m2 m3 m4 m5 a6 m7 m8 a9 m10 i0
  · have m12 := mul_f (k := 1000) (by omega) ha (pw_lt a 254)
    rw [inv_mul ha h] at m12
    have hi : pw (pw a 254) 254 = a := by
      obtain ⟨m, hm, rfl⟩ := as_E ha h
      rw [pw_E, pw_E, ← E_mod, ← E_mod m]
      congr 1
      omega
    have i13 := inv_f (k := 1000) (by omega) (pw_lt a 254)
    rw [hi] at i13
    have l14 := log_f (k := 1000) (by omega) ha
    rw [if_neg h] at l14
    have hl := L_lt ha h
    have e15 := exp_f (k := 1000) (by omega) (n := ((L a : Nat) : Int)) (by omega) (by omega)
    rw [show (((L a : Nat) : Int) % 255).toNat = L a by omega, E_L ha h] at e15
    have hz : (((mul a b : Nat) : Int) == 0) = ((b : Int) == 0) := by
      rw [Bool.eq_iff_iff, beq_iff_eq, beq_iff_eq, Int.natCast_eq_zero, Int.natCast_eq_zero, mul_eq_zero ha hb]
      exact ⟨fun h' => h'.resolve_left h, .inr⟩
    have hn : ¬ (a : Int) = 0 := by omega
    exact GfFieldWalk.other _ _ _ _ _ _ _ _ _ _ 0 _ w alive_ m1 m2 m3 m4 m5 a6 m7 m8 a9 m10 i11 m12 i13 l14 e15 (beq_eq_false_iff_ne.mpr hn) hn (bne_iff_ne.mpr hn) hz
end Go.Proofs.Ytegnjcehklldpaa.Pure
