/- Rows times sums are the sums of rows times each: for every two rows and two bytes. Conditions: none. -/
import Derived.Test.YtegnjcehklldpaaGfMath
import Derived.Test.YtegnjcehklldpaaGfBridgeQ
import Derived.Test.YtegnjcehklldpaaQ5
import Derived.Test.YtegnjcehklldpaaGfRowsLibQ
set_option linter.unusedVariables false
set_option linter.unusedSimpArgs false
namespace Go.Proofs.Ytegnjcehklldpaa.Pure
open Go.RowKit Go.Proofs.Ytegnjcehklldpaa.Q Go.Proofs.YtegnjcehklldpaaW.PrintWords Go.Proofs.YtegnjcehklldpaaW.PrintLast Go.Proofs.YtegnjcehklldpaaW.PrintMore Go.Proofs.Ytegnjcehklldpaa.GfMath Go.Proofs.Ytegnjcehklldpaa.GfBridgeQ Go.Proofs.Ytegnjcehklldpaa.GfRowsLibQ
theorem alive_ : footlockerlaw01_alive.f 1000 = some true := by decide +kernel

theorem D_sum {a b s : List Int} (ha : ∀ x ∈ a, (Lit.int .u8 x).wf = true) (hb : ∀ x ∈ b, (Lit.int .u8 x).wf = true) (n : Nat) (hs : ∀ j, j < n → at_ s j = at_ a j ^^^ at_ b j) : ∀ i, i ≤ n → D s b i = D a b i ^^^ D b b i
  | 0, _ => by simp [D]
  | i + 1, hi => by
    unfold D
    rw [D_sum ha hb n hs i (by omega), hs i (by omega), mul_comm (xor_lt (at_lt ha i) (at_lt hb i)) (at_lt hb i), mul_xor, mul_comm (at_lt hb i) (at_lt ha i), xor4]
theorem D_scale {a b s : List Int} (ha : ∀ x ∈ a, (Lit.int .u8 x).wf = true) (hb : ∀ x ∈ b, (Lit.int .u8 x).wf = true) {x : Nat} (hx : x < 256) (n : Nat) (hs : ∀ j, j < n → at_ s j = mul (at_ a j) x) : ∀ i, i ≤ n → D s b i = mul x (D a b i)
  | 0, _ => (mul_zero hx).symm
  | i + 1, hi => by
    unfold D
    rw [D_scale ha hb hx n hs i (by omega), hs i (by omega), mul_xor, mul_comm (at_lt ha i) hx, mul_assoc hx (at_lt ha i) (at_lt hb i)]
theorem add_l0 {a b s t u : List Int} {x : Nat} (ha : ∀ x ∈ a, (Lit.int .u8 x).wf = true) (hb : ∀ x ∈ b, (Lit.int .u8 x).wf = true) (hx : x < 256) (hn : a.length ≤ 300) (hab : b.length = a.length)
    (ls : s.length = a.length) (lt : t.length = a.length) (lu : u.length = a.length) {y : Nat} (hy : y < 256)
    (ms : ∀ j, j < a.length → rd s (j : Int) = ((mul (at_ a j) x : Nat) : Int)) (mt : ∀ j, j < a.length → rd t (j : Int) = ((mul (at_ a j) y : Nat) : Int)) (mu : ∀ j, j < a.length → rd u (j : Int) = ((mul (at_ a j) (x ^^^ y) : Nat) : Int)) :
    ∀ (d k i : Nat) (z : List Int), i + d = a.length → d + 400 < k → z.length = i → (∀ j, j < i → rd z (j : Int) = ((at_ a j ^^^ at_ b j : Nat) : Int)) → footlockerlaw01_GfRowsAdd.l0 k a b x s t u z a.length i = some true
  | _, 0, _, _, _, hk, _, _ => by omega
  | 0, k + 1, i, z, hi, hk, hz, hp => by
    simp only [footlockerlaw01_GfRowsAdd.l0]
    obtain rfl : i = a.length := by omega
    rw [if_neg (by omega)]
    have wz := wf_all (s := z) (c := fun j => at_ a j ^^^ at_ b j) (fun j => xor_lt (at_lt ha j) (at_lt hb j)) (fun j hj => hp j (by omega))
    have ws := wf_all (s := s) (c := fun j => mul (at_ a j) x) (fun j => mul_lt (at_lt ha j)) (fun j hj => ms j (by omega))
    rw [dot_f wz hb (by omega) (by omega), dot_f ha hb (by omega) (by omega), dot_f hb hb (by omega) (by omega)]
    simp only [Option.bind_some, if_true]
    rw [show min z.length b.length = a.length by omega, show min a.length b.length = a.length by omega, show min b.length b.length = a.length by omega, add_f (D_lt ha hb _) (D_lt hb hb _)]
    simp only [Option.bind_some, if_true]
    rw [if_pos (by rw [D_sum ha hb a.length (fun j hj => at_of (hp j hj)) a.length (Nat.le_refl _)]), dot_f ws hb (by omega) (by omega)]
    simp only [Option.bind_some, if_true]
    rw [mul_f (by omega) hx (D_lt ha hb _), show min s.length b.length = a.length by omega]
    simp only [Option.bind_some, if_true]
    obtain ⟨v, e, lv, mv⟩ := scale_f ha (y := 1) (by omega) (by omega) (k := k) (by omega)
    rw [show ((1 : Nat) : Int) = 1 from rfl] at e
    rw [if_pos (by rw [D_scale ha hb hx a.length (fun j hj => at_of (ms j hj)) a.length (Nat.le_refl _)]), e]
    simp only [Option.bind_some, if_true]
    have hv : v = a := list_eq lv (fun j hj => by rw [mv j hj, mul_one (at_lt ha j), rd_at ha hj])
    rw [hv]
    simp
  | d + 1, k + 1, i, z, hi, hk, hz, hp => by
    simp only [footlockerlaw01_GfRowsAdd.l0]
    have e : rd u (i : Int) = Go.bits .xor .u8 (rd s (i : Int)) (rd t (i : Int)) := by
      rw [ms i (by omega), mt i (by omega), mu i (by omega), u8_xor_nat _ _ (mul_lt (at_lt ha i)) (mul_lt (at_lt ha i)), mul_xor]
    rw [if_pos (by omega), if_neg (by omega), if_neg (by omega), if_neg (by omega), if_pos (by omega), if_pos (by omega), if_pos (by omega), if_pos (by omega), if_pos e, if_pos (by omega), if_pos (by omega), if_pos (by omega), rd_at ha (by omega), rd_at hb (by omega), u8_xor_nat _ _ (at_lt ha i) (at_lt hb i), next_ (n := a.length) (by omega) (by omega)]
    refine add_l0 ha hb hx hn hab ls lt lu hy ms mt mu d k (i + 1) _ (by omega) (by omega) (by rw [List.length_append, hz]; rfl) (fun j hj => ?_)
    rw [rd_append _ (by omega), hz]
    by_cases h : j = i
    · rw [if_pos h, h]
    · rw [if_neg h]
      exact hp j (by omega)
theorem GfRowsAdd : footlockerlaw01_GfRowsAdd.Pure := by
  intro a b x0 y0 h1 h2 ha h3 h4 hb h5 h6
  obtain ⟨x, rfl, hx⟩ := byte_of h5
  obtain ⟨y, rfl, hy⟩ := byte_of h6
  refine ⟨1000, ?_⟩
  unfold footlockerlaw01_GfRowsAdd.f
  rw [alive_]
  simp only [Option.bind_some, if_true]
  by_cases h : (a.length : Int) > 300
  · rw [if_pos h]
    simp only [footlockerlaw01_GfRowsAdd.j0, if_true]
  · rw [if_neg h]
    by_cases h' : (b.length : Int) = (a.length : Int)
    · rw [show ((b.length : Int) != (a.length : Int)) = false by simp [h']]
      simp only [footlockerlaw01_GfRowsAdd.j0]
      obtain ⟨s, es, ls, ms⟩ := scale_f ha hx (by omega) (k := 999) (by omega)
      obtain ⟨t, et, lt, mt⟩ := scale_f ha hy (by omega) (k := 999) (by omega)
      obtain ⟨u, eu, lu, mu⟩ := scale_f ha (xor_lt hx hy) (by omega) (k := 999) (by omega)
      rw [if_neg (by decide), es, et, add_f hx hy]
      simp only [Option.bind_some]
      rw [eu]
      simp only [Option.bind_some]
      have h0 : (0 : Int) = ((0 : Nat) : Int) := rfl
      rw [h0]
      exact add_l0 ha hb hx (by omega) (by omega) ls lt lu hy ms mt mu a.length 999 0 [] (by omega) (by omega) rfl (fun j hj => absurd hj (Nat.not_lt_zero j))
    · rw [show ((b.length : Int) != (a.length : Int)) = true by simp; omega]
      simp only [footlockerlaw01_GfRowsAdd.j0, if_true]

end Go.Proofs.Ytegnjcehklldpaa.Pure
