/- What the printed functions of layer 1 on rows of bytes compute. -/
import Derived.Test.YtegnjcehklldpaaGfBridgeQ
set_option linter.unusedVariables false
namespace Go.Proofs.Ytegnjcehklldpaa.GfRowsLibQ
open Go.RowKit Go.Proofs.Ytegnjcehklldpaa.Q Go.Proofs.YtegnjcehklldpaaW.PrintWords Go.Proofs.YtegnjcehklldpaaW.PrintLast Go.Proofs.YtegnjcehklldpaaW.PrintMore Go.Proofs.Ytegnjcehklldpaa.GfMath Go.Proofs.Ytegnjcehklldpaa.GfBridgeQ

/-- Byte i of a row. -/
def at_ (l : List Int) (i : Nat) : Nat := (l.getD i 0).toNat
theorem getD_mem {l : List Int} {i : Nat} (hi : i < l.length) : l.getD i 0 ∈ l := by
  rw [List.getD_eq_getElem?_getD, List.getElem?_eq_getElem hi]
  exact List.getElem_mem hi
theorem at_lt {l : List Int} (hl : ∀ x ∈ l, (Lit.int .u8 x).wf = true) (i : Nat) : at_ l i < 256 := by
  unfold at_
  by_cases hi : i < l.length
  · have := bounds_u8 (hl _ (getD_mem hi))
    omega
  · rw [List.getD_eq_getElem?_getD, List.getElem?_eq_none (by omega)]
    decide
theorem rd_at {l : List Int} (hl : ∀ x ∈ l, (Lit.int .u8 x).wf = true) {i : Nat} (hi : i < l.length) : rd l (i : Int) = ((at_ l i : Nat) : Int) := by
  unfold rd at_
  rw [Int.toNat_natCast]
  have := bounds_u8 (hl _ (getD_mem hi))
  omega
theorem next_ {i n : Nat} (h : i < n) (hn : n ≤ 281474976710656) : wrap64 ((i : Int) + 1) = ((i + 1 : Nat) : Int) := by unfold wrap64; omega
/-- The sum of the first products. -/
def D (a b : List Int) : Nat → Nat
  | 0 => 0
  | i + 1 => D a b i ^^^ mul (at_ a i) (at_ b i)
theorem D_lt {a b : List Int} (ha : ∀ x ∈ a, (Lit.int .u8 x).wf = true) (hb : ∀ x ∈ b, (Lit.int .u8 x).wf = true) : ∀ i, D a b i < 256
  | 0 => by show 0 < 256; omega
  | i + 1 => xor_lt (D_lt ha hb i) (mul_lt (at_lt ha i))
theorem dot_l0 {a b : List Int} (ha : ∀ x ∈ a, (Lit.int .u8 x).wf = true) (hb : ∀ x ∈ b, (Lit.int .u8 x).wf = true) {m : Nat} (h1 : m ≤ a.length) (h2 : m ≤ b.length) (hm : m ≤ 281474976710656) :
    ∀ (d k i : Nat), i + d = m → d + 20 < k → gf_Dot.l0 k a b ((D a b i : Nat) : Int) m i = some ((D a b m : Nat) : Int)
  | _, 0, _, _, hk => by omega
  | 0, k + 1, i, hi, _ => by
    simp only [gf_Dot.l0]
    obtain rfl : i = m := by omega
    rw [if_neg (by omega)]
  | d + 1, k + 1, i, hi, hk => by
    simp only [gf_Dot.l0]
    rw [if_pos (by omega), if_pos (by omega), if_pos (by omega), if_pos (by omega), rd_at ha (by omega), rd_at hb (by omega), mul_f (by omega) (at_lt ha i) (at_lt hb i)]
    simp only [Option.bind_some]
    rw [u8_xor_nat _ _ (D_lt ha hb i) (mul_lt (at_lt ha i)), next_ (by omega) hm]
    exact dot_l0 ha hb h1 h2 hm d k (i + 1) (by omega) (by omega)
theorem dot_f {a b : List Int} (ha : ∀ x ∈ a, (Lit.int .u8 x).wf = true) (hb : ∀ x ∈ b, (Lit.int .u8 x).wf = true) {k : Nat} (h1 : a.length ≤ 281474976710656) (hk : a.length + 20 < k) :
    gf_Dot.f k a b = some ((D a b (min a.length b.length) : Nat) : Int) := by
  unfold gf_Dot.f
  have e : mn (a.length : Int) (b.length : Int) = ((min a.length b.length : Nat) : Int) := by unfold mn; split <;> omega
  rw [e]
  exact dot_l0 ha hb (Nat.min_le_left _ _) (Nat.min_le_right _ _) (by omega) _ k 0 (Nat.zero_add _) (by omega)
theorem rd_set {l : List Int} {i j : Nat} (v : Int) (hi : i < l.length) : rd (l.set i v) (j : Int) = if j = i then v else rd l (j : Int) := by
  unfold rd
  rw [Int.toNat_natCast, List.getD_eq_getElem?_getD, List.getElem?_set, List.getD_eq_getElem?_getD]
  by_cases h : i = j
  · subst h
    simp [hi]
  · rw [if_neg h, if_neg (fun e => h e.symm)]
theorem scale_l0 {a : List Int} (ha : ∀ x ∈ a, (Lit.int .u8 x).wf = true) {y : Nat} (hy : y < 256) (hn : a.length ≤ 281474976710656) :
    ∀ (d k i : Nat) (out : List Int), i + d = a.length → d + 20 < k → out.length = a.length → (∀ j, j < i → rd out (j : Int) = ((mul (at_ a j) y : Nat) : Int)) →
    ∃ s, gf_Scale.l0 k y out a a.length i = some s ∧ s.length = a.length ∧ ∀ j, j < a.length → rd s (j : Int) = ((mul (at_ a j) y : Nat) : Int)
  | _, 0, _, _, _, hk, _, _ => by omega
  | 0, k + 1, i, out, hi, _, ho, hp => by
    simp only [gf_Scale.l0]
    obtain rfl : i = a.length := by omega
    rw [if_neg (by omega)]
    exact ⟨out, rfl, ho, hp⟩
  | d + 1, k + 1, i, out, hi, hk, ho, hp => by
    simp only [gf_Scale.l0]
    rw [if_pos (by omega), if_pos (by omega), if_pos (by omega), rd_at ha (by omega), mul_f (by omega) (at_lt ha i) hy]
    simp only [Option.bind_some]
    rw [if_pos (by omega), next_ (by omega) hn, Int.toNat_natCast]
    refine scale_l0 ha hy hn d k (i + 1) _ (by omega) (by omega) (by rw [List.length_set]; exact ho) (fun j hj => ?_)
    rw [rd_set _ (by omega)]
    by_cases h : j = i
    · rw [if_pos h, h]
    · rw [if_neg h]
      exact hp j (by omega)
theorem scale_f {a : List Int} (ha : ∀ x ∈ a, (Lit.int .u8 x).wf = true) {y : Nat} (hy : y < 256) (hn : a.length ≤ 281474976710656) {k : Nat} (hk : a.length + 20 < k) :
    ∃ s, gf_Scale.f k a y = some s ∧ s.length = a.length ∧ ∀ j, j < a.length → rd s (j : Int) = ((mul (at_ a j) y : Nat) : Int) := by
  unfold gf_Scale.f
  rw [if_pos (by omega), if_pos (by omega), Int.toNat_natCast]
  exact scale_l0 ha hy hn a.length k 0 _ (by omega) (by omega) (by rw [List.length_replicate]) (fun j hj => by omega)
theorem wf_byte {n : Nat} (h : n < 256) : (Lit.int .u8 (n : Int)).wf = true := by
  simp [Lit.wf, IntKind.min, IntKind.max, IntKind.signed, IntKind.bits]
  omega
theorem wf_all {s : List Int} {c : Nat → Nat} (hc : ∀ j, c j < 256) (h : ∀ j, j < s.length → rd s (j : Int) = ((c j : Nat) : Int)) : ∀ x ∈ s, (Lit.int .u8 x).wf = true := by
  intro x hx
  obtain ⟨j, hj, rfl⟩ := List.getElem_of_mem hx
  have := h j hj
  unfold rd at this
  rw [Int.toNat_natCast, List.getD_eq_getElem?_getD, List.getElem?_eq_getElem hj] at this
  simp only [Option.getD_some] at this
  rw [this]
  exact wf_byte (hc j)
theorem at_of {s : List Int} {n j : Nat} (h : rd s (j : Int) = ((n : Nat) : Int)) : at_ s j = n := by
  unfold rd at h
  unfold at_
  rw [Int.toNat_natCast] at h
  omega
theorem list_eq {s a : List Int} (hl : s.length = a.length) (h : ∀ j, j < a.length → rd s (j : Int) = rd a (j : Int)) : s = a := by
  refine List.ext_getElem hl (fun j h1 h2 => ?_)
  have := h j h2
  unfold rd at this
  rw [Int.toNat_natCast, List.getD_eq_getElem?_getD, List.getD_eq_getElem?_getD, List.getElem?_eq_getElem h1, List.getElem?_eq_getElem h2] at this
  exact this
theorem rd_append {l : List Int} {j : Nat} (v : Int) (hj : j ≤ l.length) : rd (l ++ [v]) (j : Int) = if j = l.length then v else rd l (j : Int) := by
  unfold rd
  rw [Int.toNat_natCast, List.getD_eq_getElem?_getD, List.getD_eq_getElem?_getD]
  by_cases h : j = l.length
  · subst h
    simp
  · rw [if_neg h, List.getElem?_append_left (by omega)]
end Go.Proofs.Ytegnjcehklldpaa.GfRowsLibQ
