/- Of all numbers, sizes and bytes every answer of layer 7's Put, Get and Fits is as the reference says; what is put is got, if it fits. Conditions: none. -/
import Derived.Test.YtbcfpfjdleplhaaLittleRefLib
set_option linter.unusedVariables false
set_option linter.unusedSimpArgs false
namespace Go.Proofs.Ytbcfpfjdleplhaa.Pure
open Go.RowKit Go.Proofs.Ytbcfpfjdleplhaa.Q Go.Proofs.YtbcfpfjdleplhaaW.PrintWords Go.Proofs.YtbcfpfjdleplhaaW.PrintLast Go.Proofs.YtbcfpfjdleplhaaW.PrintMore Go.Proofs.Ytbcfpfjdleplhaa.LittleLib Go.Proofs.Ytbcfpfjdleplhaa.LittleRefLib
theorem shr_u64 {n s : Nat} (h : s ≤ 64) : shr .u64 (n : Int) (s : Int) = ((n / 2 ^ s : Nat) : Int) := by
  unfold shr
  rw [Int.toNat_natCast, show min s IntKind.u64.bits = s from Nat.min_eq_left h, Int.natCast_ediv, Int.natCast_pow]
  rfl
theorem shr_key (n s : Nat) (h : s ≤ 8) : (shr .u64 (n : Int) ((8 * s : Nat) : Int) == 0) = decide (n < 256 ^ s) := by
  rw [shr_u64 (show 8 * s ≤ 64 by omega), Nat.pow_mul, show (2 : Nat) ^ 8 = 256 from rfl, Bool.eq_iff_iff, beq_iff_eq, decide_eq_true_eq, Int.natCast_eq_zero, Nat.div_eq_zero_iff]
  have hp := pow_pos s
  generalize 256 ^ s = q at hp ⊢
  omega
theorem fits_f (n : Nat) (size : Int) : little_Fits.f n size = some (decide (size ≥ 8 ∨ n < 256 ^ hs size)) := by
  unfold little_Fits.f
  have h8 : hs size ≤ 8 := by unfold hs; omega
  have key := shr_key n (hs size) h8
  generalize (256 ^ hs size : Nat) = q at key ⊢
  by_cases h : size ≥ 8
  · rw [if_pos h, decide_eq_true (.inl h)]
  · rw [if_neg h, held_f, Option.bind_some]
    have e : wrap64 (8 * ((hs size : Nat) : Int)) = ((8 * hs size : Nat) : Int) := by unfold wrap64; omega
    rw [e, if_pos (Int.natCast_nonneg _), key]
    congr 1
    rw [decide_eq_decide]
    exact ⟨.inr, fun h' => h'.resolve_left h⟩
theorem P_take8 (size : Int) (n : Nat) : (P (hs size) n).take 8 = P (hs size) n := List.take_of_length_le (by rw [P_length]; unfold hs; omega)
theorem put_back (size : Int) {n : Nat} (hn : n < 18446744073709551616) : (n % 256 ^ hs size = n) ↔ (size ≥ 8 ∨ n < 256 ^ hs size) := by
  have hp := pow_pos (hs size)
  constructor
  · intro h
    exact .inr (by rw [← h]; exact Nat.mod_lt _ hp)
  · rintro (h | h)
    · have e : hs size = 8 := by unfold hs; omega
      rw [e]
      exact Nat.mod_eq_of_lt (Nat.lt_of_lt_of_le hn (by decide))
    · exact Nat.mod_eq_of_lt h
theorem back_ (size : Int) {n : Nat} (hn : n < 18446744073709551616) : (((n % 256 ^ hs size : Nat) : Int) == (n : Int)) = decide (size ≥ 8 ∨ n < 256 ^ hs size) := by
  rw [Bool.eq_iff_iff, beq_iff_eq, decide_eq_true_eq, ← put_back size hn]
  exact Int.ofNat_inj
theorem LittleNumbers : footlockerlaw07_LittleNumbers.Pure := by
  intro a0 size l h0 h1 h2 h3 hl
  obtain ⟨n, rfl, hn⟩ : ∃ n : Nat, a0 = (n : Int) ∧ n < 18446744073709551616 := by
    have := bounds_u64 h0
    exact ⟨a0.toNat, by omega, by omega⟩
  refine ⟨1000, ?_⟩
  unfold footlockerlaw07_LittleNumbers.f footlockerlaw07_alive.f
  simp only [Option.bind_some, if_true]
  by_cases h100 : (l.length : Int) > 100
  · rw [if_pos h100]
  · rw [if_neg h100, put_f (by omega) hn]
    simp only [Option.bind_some]
    have tail : ∀ k f, 100 < k → f = decide (size ≥ 8 ∨ n < 256 ^ hs size) → footlockerlaw07_LittleNumbers.j0 k n size l (P (hs size) n) f = some true := by
      intro k f hk hf
      obtain ⟨k, rfl⟩ : ∃ m, k = m + 1 := ⟨k - 1, by omega⟩
      simp only [footlockerlaw07_LittleNumbers.j0]
      rw [rput_f (by omega) hn]
      simp only [Option.bind_some]
      have h8 : hs size ≤ 8 := by unfold hs; omega
      rw [same_f (by rw [P_length]; omega) (by rw [P_length]; omega), get_f (by omega) hl, rget_f (by omega) hl, fits_f n size, get_f (by omega) (P_bytes _ _)]
      simp only [Option.bind_some, decide_true, if_true, hf]
      rw [P_take8, G_P, back_ size hn]
      simp only [beq_self_eq_true, if_true]
    by_cases h8 : size ≥ 8
    · rw [if_pos h8]
      exact tail 1000 true (by omega) (by simp [h8])
    · rw [if_neg h8, rput_f (by omega) hn]
      simp only [Option.bind_some]
      rw [rget_f (by omega) (P_bytes _ _)]
      simp only [Option.bind_some]
      refine tail 1000 _ (by omega) ?_
      rw [P_take8, G_P, back_ size hn]
end Go.Proofs.Ytbcfpfjdleplhaa.Pure
