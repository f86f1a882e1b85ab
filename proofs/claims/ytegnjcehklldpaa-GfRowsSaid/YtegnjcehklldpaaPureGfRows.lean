/- The sum of products and a row times a byte are as the reference says: for every two rows and every byte. Conditions: none. -/
import Derived.Test.YtegnjcehklldpaaGfMath
import Derived.Test.YtegnjcehklldpaaGfBridgeQ
import Derived.Test.YtegnjcehklldpaaGfRefQ
import Derived.Test.YtegnjcehklldpaaQ4
import Derived.Test.YtegnjcehklldpaaGfRowsLibQ
set_option linter.unusedVariables false
set_option linter.unusedSimpArgs false
namespace Go.Proofs.Ytegnjcehklldpaa.Pure
open Go.RowKit Go.Proofs.Ytegnjcehklldpaa.Q Go.Proofs.YtegnjcehklldpaaW.PrintWords Go.Proofs.YtegnjcehklldpaaW.PrintLast Go.Proofs.YtegnjcehklldpaaW.PrintMore Go.Proofs.Ytegnjcehklldpaa.GfMath Go.Proofs.Ytegnjcehklldpaa.GfBridgeQ Go.Proofs.Ytegnjcehklldpaa.GfRef Go.Proofs.Ytegnjcehklldpaa.GfRowsLibQ
theorem alive_ : footlockerlaw01_alive.f 1000 = some true := by decide +kernel

theorem rows_l0 {a b : List Int} (ha : ∀ x ∈ a, (Lit.int .u8 x).wf = true) (hb : ∀ x ∈ b, (Lit.int .u8 x).wf = true) (y r : Int) (hn : a.length ≤ 300)
    (K : Nat) (hend : ∀ k, K ≤ k → ((gf_Scale.f k a y).bind fun t171 => (footlockerlaw01_GfRows.l1 k a b y ((D a b (min a.length b.length) : Nat) : Int) t171 (t171.length : Int) 0)) = some true) :
    ∀ (d k i : Nat), i + d = a.length → d + K + 21 < k → footlockerlaw01_GfRows.l0 k a b y ((D a b (min i b.length) : Nat) : Int) a.length i = some true
  | _, 0, _, _, hk => by omega
  | 0, k + 1, i, hi, hk => by
    simp only [footlockerlaw01_GfRows.l0]
    obtain rfl : i = a.length := by omega
    rw [if_neg (by omega)]
    exact hend k (by omega)
  | d + 1, k + 1, i, hi, hk => by
    simp only [footlockerlaw01_GfRows.l0]
    rw [if_pos (by omega), next_ (n := a.length) (by omega) (by omega)]
    by_cases h : i < b.length
    · rw [if_pos (by omega), if_pos (by omega), if_pos (by omega), rd_at ha (by omega), rd_at hb h, rmul_f (by omega) (at_lt ha i) (at_lt hb i)]
      simp only [Option.bind_some]
      rw [show min i b.length = i by omega, u8_xor_nat _ _ (D_lt ha hb i) (mul_lt (at_lt ha i))]
      have := rows_l0 ha hb y r hn K hend d k (i + 1) (by omega) (by omega)
      rw [show min (i + 1) b.length = i + 1 by omega] at this
      exact this
    · rw [if_neg (by omega)]
      have := rows_l0 ha hb y r hn K hend d k (i + 1) (by omega) (by omega)
      rw [show min (i + 1) b.length = min i b.length by omega] at this
      exact this
theorem rows_l1 {a b s : List Int} (ha : ∀ x ∈ a, (Lit.int .u8 x).wf = true) (hb : ∀ x ∈ b, (Lit.int .u8 x).wf = true) {y : Nat} (hy : y < 256) (hn : a.length ≤ 300) (hs : s.length = a.length) (hm : ∀ j, j < a.length → rd s (j : Int) = ((mul (at_ a j) y : Nat) : Int)) :
    ∀ (d k i : Nat), i + d = a.length → d + 400 < k → footlockerlaw01_GfRows.l1 k a b y ((D a b (min a.length b.length) : Nat) : Int) s s.length i = some true
  | _, 0, _, _, hk => by omega
  | 0, k + 1, i, hi, hk => by
    simp only [footlockerlaw01_GfRows.l1]
    rw [if_neg (by omega), dot_f ha hb (by omega) (by omega)]
    simp only [Option.bind_some, if_true]
    rw [hs]
    simp
  | d + 1, k + 1, i, hi, hk => by
    simp only [footlockerlaw01_GfRows.l1]
    rw [if_pos (by omega), if_neg (by omega), if_pos (by omega), if_pos (by omega), if_pos (by omega), rd_at ha (by omega), rmul_f (by omega) (at_lt ha i) hy, hm i (by omega)]
    simp only [Option.bind_some, if_true]
    rw [next_ (n := a.length) (by omega) (by omega)]
    exact rows_l1 ha hb hy hn hs hm d k (i + 1) (by omega) (by omega)
theorem GfRows : footlockerlaw01_GfRows.Pure := by
  intro a b y0 h1 h2 ha h3 h4 hb h5
  obtain ⟨y, rfl, hy⟩ := byte_of h5
  refine ⟨2000, ?_⟩
  unfold footlockerlaw01_GfRows.f
  rw [show footlockerlaw01_alive.f 2000 = some true by decide +kernel]
  simp only [Option.bind_some, if_true]
  by_cases h : (a.length : Int) > 300
  · rw [if_pos h]
    simp only [footlockerlaw01_GfRows.j0]
    rfl
  · rw [if_neg h]
    by_cases h' : (b.length : Int) > 300
    · rw [show decide ((b.length : Int) > 300) = true from decide_eq_true h']
      simp only [footlockerlaw01_GfRows.j0]
      rfl
    · rw [show decide ((b.length : Int) > 300) = false from decide_eq_false h']
      simp only [footlockerlaw01_GfRows.j0]
      rw [if_neg (by decide)]
      have := rows_l0 ha hb y 0 (by omega) 800 (fun k hk => by
        obtain ⟨s, e, hs, hm⟩ := scale_f ha hy (by omega) (k := k) (by omega)
        rw [e]
        simp only [Option.bind_some]
        exact rows_l1 ha hb hy (by omega) hs hm a.length k 0 (by omega) (by omega)) a.length 1999 0 (by omega) (by omega)
      rw [show min 0 b.length = 0 by omega] at this
      exact this

end Go.Proofs.Ytegnjcehklldpaa.Pure
