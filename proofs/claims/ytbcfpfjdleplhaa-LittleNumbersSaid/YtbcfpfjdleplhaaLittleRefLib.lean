/- What the reference's Put and Get of layer 7 compute. -/
import Derived.Test.YtbcfpfjdleplhaaLittleLib
import Derived.Test.YtbcfpfjdleplhaaQ1
import Derived.Test.YtbcfpfjdleplhaaQ2
set_option linter.unusedVariables false
set_option linter.unusedSimpArgs false
namespace Go.Proofs.Ytbcfpfjdleplhaa.LittleRefLib
open Go.RowKit Go.Proofs.Ytbcfpfjdleplhaa.Q Go.Proofs.YtbcfpfjdleplhaaW.PrintWords Go.Proofs.YtbcfpfjdleplhaaW.PrintLast Go.Proofs.YtbcfpfjdleplhaaW.PrintMore Go.Proofs.Ytbcfpfjdleplhaa.LittleLib
theorem rput_l0 (size : Int) : ∀ (d k i n : Nat) (acc : List Int), i + d = hs size → d < k → acc.length = i → n < 18446744073709551616 → footlockerref07_Put.l0 k n size acc i = some (acc ++ P d n)
  | _, 0, _, _, _, _, hk, _, _ => by omega
  | 0, k + 1, i, n, acc, hi, _, _, _ => by
    simp only [footlockerref07_Put.l0]
    unfold hs at hi
    by_cases h : (i : Int) < size
    · rw [if_pos h, if_neg (by omega)]
      simp [P]
    · rw [if_neg h]
      simp [P]
  | d + 1, k + 1, i, n, acc, hi, hk, ha, hn => by
    simp only [footlockerref07_Put.l0]
    have h8 : hs size ≤ 8 := by unfold hs; omega
    have e1 : Int.tdiv (n : Int) 256 = ((n / 256 : Nat) : Int) := by rw [Int.tdiv_eq_ediv_of_nonneg (by omega)]; omega
    have e2 : Int.tmod (n : Int) 256 % 256 = ((n % 256 : Nat) : Int) := by rw [Int.tmod_eq_emod_of_nonneg (by omega)]; omega
    rw [if_pos (by unfold hs at hi; omega), if_pos (by omega), if_pos (by omega), e1, e2, wraps_u64 _ (by omega) (by show ((n / 256 : Nat) : Int) < 18446744073709551616; omega), next_ (n := 8) (by omega) (by omega)]
    rw [rput_l0 size d k (i + 1) (n / 256) _ (by omega) (by omega) (by rw [List.length_append, ha]; rfl) (by omega)]
    simp [P]
theorem rput_f {k : Nat} (hk : 8 < k) {n : Nat} (hn : n < 18446744073709551616) (size : Int) : footlockerref07_Put.f k n size = some (P (hs size) n) := by
  unfold footlockerref07_Put.f
  have h8 : hs size ≤ 8 := by unfold hs; omega
  have := rput_l0 size (hs size) k 0 n [] (by omega) (by omega) rfl hn
  simpa using this
theorem rget_l0 {l : List Int} (h : Bytes l) : ∀ (d k i : Nat) (y : Int), i + d = min l.length 8 → d < k → (i < 8 → y = ((256 ^ i : Nat) : Int)) →
    footlockerref07_Get.l0 k l ((G (l.take i) : Nat) : Int) y i = some ((G (l.take 8) : Nat) : Int)
  | _, 0, _, _, _, hk, _ => by omega
  | 0, k + 1, i, y, hi, _, _ => by
    simp only [footlockerref07_Get.l0]
    have e : l.take i = l.take 8 := by rw [List.take_eq_take_iff]; omega
    by_cases h1 : (i : Int) < (l.length : Int)
    · rw [if_pos h1, if_neg (by omega), e]
    · rw [if_neg h1, e]
  | d + 1, k + 1, i, y, hi, hk, hy => by
    simp only [footlockerref07_Get.l0]
    obtain ⟨r1, r2⟩ := rd_nat h (show i < l.length by omega)
    rw [hy (by omega), if_pos (by omega), if_pos (by omega), if_pos (by omega), r1, next_ (n := 8) (by omega) (by omega)]
    have hg := G_lt (h.take i)
    rw [List.length_take, show min i l.length = i by omega] at hg
    have hu : l.take (i + 1) = l.take i ++ [l[i]'(by omega)] := List.take_succ_eq_append_getElem (by omega)
    have hG : G (l.take (i + 1)) = G (l.take i) + (l[i]'(by omega)).toNat * 256 ^ i := by
      rw [hu, G_append, List.length_take, show min i l.length = i by omega]
      show _ = _
      simp [G, Nat.mul_comm]
    have hp : 256 ^ i ≤ 256 ^ 7 := Nat.pow_le_pow_right (by omega) (by omega)
    have hp7 : (256 : Nat) ^ 7 = 72057594037927936 := by decide
    rw [hp7] at hp
    have hp6 : i < 7 → 256 ^ i ≤ 281474976710656 := fun h6 => Nat.le_trans (Nat.pow_le_pow_right (by omega) (show i ≤ 6 by omega)) (by decide)
    have hp1 : (256 : Nat) ^ (i + 1) = 256 * 256 ^ i := by rw [Nat.pow_succ, Nat.mul_comm]
    have hrec := fun y hy => rget_l0 h d k (i + 1) y (by omega) (by omega) hy
    rw [hG] at hrec
    generalize (l[i]'(by omega)).toNat = b at r2 hrec
    generalize G (l.take i) = g at hg hrec
    rw [hp1] at hrec
    clear hp1 hp7 hu hG r1 hy
    generalize 256 ^ i = q at hp hp6 hg hrec ⊢
    have hbq : b * q ≤ 255 * q := Nat.mul_le_mul_right q (by omega)
    have e1 : IntKind.u64.wrap ((b : Int)) = (b : Int) := wraps_u64 _ (by omega) (by show (b : Int) < 18446744073709551616; omega)
    have e2 : IntKind.u64.wrap ((b : Int) * (q : Int)) = ((b * q : Nat) : Int) := by
      rw [← Int.natCast_mul]
      exact wraps_u64 _ (by omega) (by show ((b * q : Nat) : Int) < 18446744073709551616; omega)
    have e3 : IntKind.u64.wrap ((g : Int) + ((b * q : Nat) : Int)) = ((g + b * q : Nat) : Int) := by
      rw [← Int.natCast_add]
      exact wraps_u64 _ (by omega) (by show ((g + b * q : Nat) : Int) < 18446744073709551616; omega)
    rw [e1, e2, e3]
    refine hrec _ (fun h8 => ?_)
    by_cases h7 : i < 7
    · have := hp6 h7
      rw [wraps_u64 _ (by omega) (by show (q : Int) * 256 < 18446744073709551616; omega)]
      omega
    · omega
theorem rget_f {k : Nat} (hk : 8 < k) {l : List Int} (h : Bytes l) : footlockerref07_Get.f k l = some ((G (l.take 8) : Nat) : Int) := by
  unfold footlockerref07_Get.f
  have := rget_l0 h (min l.length 8) k 0 1 (by omega) (by omega) (fun _ => rfl)
  exact this
end Go.Proofs.Ytbcfpfjdleplhaa.LittleRefLib
