/- The field of 256 elements over natural numbers: products, powers, logarithms. Plain Lean, no program in sight. -/
import Derived.Laws.BitsAllLaws
namespace Go.Proofs.Ytegnjcehklldpaa.GfMath

/-- A byte times x. -/
def tw (a : Nat) : Nat := if a &&& 128 = 0 then a * 2 % 256 else (a * 2 % 256) ^^^ 29
/-- The product, bit by bit of the second. -/
def mulF : Nat → Nat → Nat → Nat
  | 0, _, _ => 0
  | k + 1, a, b => (if b % 2 = 0 then 0 else a) ^^^ mulF k (tw a) (b / 2)
def mul (a b : Nat) : Nat := mulF 8 a b
/-- x to the n-th. -/
def E : Nat → Nat
  | 0 => 1
  | n + 1 => tw (E n)

theorem tw_lt {a : Nat} (h : a < 256) : tw a < 256 := by
  have : ∀ a, a < 256 → tw a < 256 := by decide +kernel
  exact this a h
theorem xor_lt {a b : Nat} (h : a < 256) (h' : b < 256) : a ^^^ b < 256 := Nat.xor_lt_two_pow (n := 8) h h'
theorem tw_eq {a : Nat} (h : a < 256) : tw a = (2 * a) ^^^ (if a.testBit 7 = true then 285 else 0) := by
  have : ∀ a, a < 256 → tw a = (2 * a) ^^^ (if a.testBit 7 = true then 285 else 0) := by decide +kernel
  exact this a h
theorem half_xor (a b : Nat) : (a ^^^ b) / 2 = (a / 2) ^^^ (b / 2) := by
  apply Nat.eq_of_testBit_eq
  intro i
  simp [← Nat.testBit_succ]
theorem two_xor (a b : Nat) : 2 * (a ^^^ b) = (2 * a) ^^^ (2 * b) := by
  apply Nat.eq_of_testBit_eq
  intro i
  cases i with
  | zero => simp
  | succ i => simp [Nat.testBit_succ, half_xor]
theorem odd_xor (a b : Nat) : (a ^^^ b) % 2 = (a + b) % 2 := by
  have h := Nat.testBit_xor (x := a) (y := b) (i := 0)
  simp only [Nat.testBit_zero] at h
  rcases Nat.mod_two_eq_zero_or_one a with ha | ha <;> rcases Nat.mod_two_eq_zero_or_one b with hb | hb <;> rcases Nat.mod_two_eq_zero_or_one (a ^^^ b) with hc | hc <;> simp [ha, hb, hc] at h <;> omega
theorem tw_xor {a b : Nat} (h : a < 256) (h' : b < 256) : tw (a ^^^ b) = tw a ^^^ tw b := by
  rw [tw_eq h, tw_eq h', tw_eq (xor_lt h h'), two_xor, Nat.testBit_xor]
  cases a.testBit 7 <;> cases b.testBit 7 <;> simp
  · rw [Nat.xor_assoc]
  · rw [Nat.xor_assoc, Nat.xor_assoc, Nat.xor_comm 285 (2 * b)]
  · rw [Nat.xor_assoc (2 * a) 285, ← Nat.xor_assoc 285, Nat.xor_comm 285 (2 * b), Nat.xor_assoc (2 * b), Nat.xor_self, Nat.xor_zero]
theorem mulF_lt : ∀ (k : Nat) {a b : Nat}, a < 256 → mulF k a b < 256
  | 0, _, _, _ => by simp [mulF]
  | k + 1, a, b, h => by
    unfold mulF
    refine xor_lt ?_ (mulF_lt k (tw_lt h))
    split <;> omega
theorem mul_lt {a b : Nat} (h : a < 256) : mul a b < 256 := mulF_lt 8 h
theorem xor4 (a b c d : Nat) : (a ^^^ b) ^^^ (c ^^^ d) = (a ^^^ c) ^^^ (b ^^^ d) := by
  rw [Nat.xor_assoc, Nat.xor_assoc, ← Nat.xor_assoc b, ← Nat.xor_assoc c, Nat.xor_comm b c]
theorem mulF_xor : ∀ (k a b c : Nat), mulF k a (b ^^^ c) = mulF k a b ^^^ mulF k a c
  | 0, _, _, _ => by simp [mulF]
  | k + 1, a, b, c => by
    unfold mulF
    rw [half_xor, mulF_xor k, xor4]
    congr 1
    rw [odd_xor]
    rcases Nat.mod_two_eq_zero_or_one b with hb | hb <;> rcases Nat.mod_two_eq_zero_or_one c with hc | hc
    · rw [if_pos (by omega), if_pos hb, if_pos hc]; rfl
    · rw [if_neg (by omega), if_pos hb, if_neg (by omega), Nat.zero_xor]
    · rw [if_neg (by omega), if_neg (by omega), if_pos hc, Nat.xor_zero]
    · rw [if_pos (by omega), if_neg (by omega), if_neg (by omega), Nat.xor_self]
theorem mul_xor (a b c : Nat) : mul a (b ^^^ c) = mul a b ^^^ mul a c := mulF_xor 8 a b c
theorem mul_zero {a : Nat} (h : a < 256) : mul a 0 = 0 := by
  have : ∀ a, a < 256 → mul a 0 = 0 := by decide +kernel
  exact this a h
theorem mul_one {a : Nat} (h : a < 256) : mul a 1 = a := by
  have : ∀ a, a < 256 → mul a 1 = a := by decide +kernel
  exact this a h
theorem zero_mul {b : Nat} (h : b < 256) : mul 0 b = 0 := by
  have : ∀ a, a < 256 → mul 0 a = 0 := by decide +kernel
  exact this b h
/-- A byte is the sum of its bits. -/
theorem bits_sum {b : Nat} (h : b < 256) : b = (b &&& 1) ^^^ ((b &&& 2) ^^^ ((b &&& 4) ^^^ ((b &&& 8) ^^^ ((b &&& 16) ^^^ ((b &&& 32) ^^^ ((b &&& 64) ^^^ (b &&& 128))))))) := by
  have : ∀ b, b < 256 → b = (b &&& 1) ^^^ ((b &&& 2) ^^^ ((b &&& 4) ^^^ ((b &&& 8) ^^^ ((b &&& 16) ^^^ ((b &&& 32) ^^^ ((b &&& 64) ^^^ (b &&& 128))))))) := by decide +kernel
  exact this b h
theorem bit_of {b : Nat} (h : b < 256) (i : Nat) (hi : i < 8) : b &&& 2 ^ i = 0 ∨ b &&& 2 ^ i = 2 ^ i := by
  have : ∀ b, b < 256 → ∀ i, i < 8 → b &&& 2 ^ i = 0 ∨ b &&& 2 ^ i = 2 ^ i := by decide +kernel
  exact this b h i hi
/-- Two sums-keeping functions that agree on the bits agree. -/
theorem linear_ext (f g : Nat → Nat) (hf : ∀ b c, b < 256 → c < 256 → f (b ^^^ c) = f b ^^^ f c) (hg : ∀ b c, b < 256 → c < 256 → g (b ^^^ c) = g b ^^^ g c)
    (h0 : f 0 = g 0) (h : ∀ i, i < 8 → f (2 ^ i) = g (2 ^ i)) {b : Nat} (hb : b < 256) : f b = g b := by
  have hx : ∀ i, i < 8 → f (b &&& 2 ^ i) = g (b &&& 2 ^ i) := fun i hi => by
    rcases bit_of hb i hi with e | e <;> rw [e]
    · exact h0
    · exact h i hi
  have hl : ∀ i, i < 8 → b &&& 2 ^ i < 256 := fun i _ => Nat.lt_of_le_of_lt Nat.and_le_left hb
  have e0 := hx 0 (by omega)
  have e1 := hx 1 (by omega)
  have e2 := hx 2 (by omega)
  have e3 := hx 3 (by omega)
  have e4 := hx 4 (by omega)
  have e5 := hx 5 (by omega)
  have e6 := hx 6 (by omega)
  have e7 := hx 7 (by omega)
  have l0 := hl 0 (by omega)
  have l1 := hl 1 (by omega)
  have l2 := hl 2 (by omega)
  have l3 := hl 3 (by omega)
  have l4 := hl 4 (by omega)
  have l5 := hl 5 (by omega)
  have l6 := hl 6 (by omega)
  have l7 := hl 7 (by omega)
  simp only [Nat.reducePow] at e0 e1 e2 e3 e4 e5 e6 e7 l0 l1 l2 l3 l4 l5 l6 l7
  have s6 := xor_lt l6 l7
  have s5 := xor_lt l5 s6
  have s4 := xor_lt l4 s5
  have s3 := xor_lt l3 s4
  have s2 := xor_lt l2 s3
  have s1 := xor_lt l1 s2
  rw [bits_sum hb, hf _ _ l0 s1, hf _ _ l1 s2, hf _ _ l2 s3, hf _ _ l3 s4, hf _ _ l4 s5, hf _ _ l5 s6, hf _ _ l6 l7, hg _ _ l0 s1, hg _ _ l1 s2, hg _ _ l2 s3, hg _ _ l3 s4, hg _ _ l4 s5, hg _ _ l5 s6, hg _ _ l6 l7, e0, e1, e2, e3, e4, e5, e6, e7]
theorem mul_tw {a b : Nat} (ha : a < 256) (hb : b < 256) : mul a (tw b) = tw (mul a b) := by
  refine linear_ext (fun b => mul a (tw b)) (fun b => tw (mul a b)) (fun b c h h' => ?_) (fun b c h h' => ?_) ?_ ?_ hb
  · show mul a (tw (b ^^^ c)) = _
    rw [tw_xor h h', mul_xor]
  · show tw (mul a (b ^^^ c)) = _
    rw [mul_xor, tw_xor (mul_lt ha) (mul_lt ha)]
  · have : ∀ a, a < 256 → mul a (tw 0) = tw (mul a 0) := by decide +kernel
    exact this a ha
  · have : ∀ a, a < 256 → ∀ i, i < 8 → mul a (tw (2 ^ i)) = tw (mul a (2 ^ i)) := by decide +kernel
    exact this a ha
theorem E_lt : ∀ n, E n < 256
  | 0 => by decide
  | n + 1 => tw_lt (E_lt n)
theorem E_255 : E 255 = 1 := by decide +kernel
theorem E_round : ∀ n, E (n + 255) = E n
  | 0 => by rw [Nat.zero_add, E_255]; rfl
  | n + 1 => by
    show E (n + 255 + 1) = _
    unfold E
    rw [E_round n]
theorem E_rounds (n : Nat) : ∀ k, E (n + 255 * k) = E n
  | 0 => rfl
  | k + 1 => by
    rw [show n + 255 * (k + 1) = (n + 255 * k) + 255 by omega, E_round, E_rounds n k]
theorem E_mod (n : Nat) : E (n % 255) = E n := by
  have := E_rounds (n % 255) (n / 255)
  rw [← this, Nat.mod_add_div]
theorem mul_E {a : Nat} (ha : a < 256) : ∀ n, mul a (E (n + 1)) = tw (mul a (E n)) := fun n => mul_tw ha (E_lt n)
theorem E_add (m : Nat) : ∀ n, mul (E m) (E n) = E (m + n)
  | 0 => mul_one (E_lt m)
  | n + 1 => by
    rw [mul_E (E_lt m), E_add m n]
    rfl
/-- The row of all powers. -/
def tab : List Nat := (List.range 255).map E
/-- Which power a byte is. -/
def L (a : Nat) : Nat := tab.idxOf a
theorem E_L {a : Nat} (h : a < 256) (h0 : a ≠ 0) : E (L a) = a := by
  have : ∀ a, a < 256 → a ≠ 0 → E (L a) = a := by decide +kernel
  exact this a h h0
theorem L_lt {a : Nat} (h : a < 256) (h0 : a ≠ 0) : L a < 255 := by
  have : ∀ a, a < 256 → a ≠ 0 → L a < 255 := by decide +kernel
  exact this a h h0
theorem L_E {n : Nat} (h : n < 255) : L (E n) = n := by
  have : ∀ n, n < 255 → L (E n) = n := by decide +kernel
  exact this n h
theorem L_E_mod (n : Nat) : L (E n) = n % 255 := by
  rw [← E_mod, L_E (Nat.mod_lt _ (by omega))]
theorem E_ne (n : Nat) : E n ≠ 0 := by
  have : ∀ n, n < 255 → E n ≠ 0 := by decide +kernel
  rw [← E_mod]
  exact this _ (Nat.mod_lt _ (by omega))
theorem E_inj {m n : Nat} (h : E m = E n) : m % 255 = n % 255 := by
  rw [← L_E_mod, ← L_E_mod, h]
/-- Whoever isn't 0 is a power. -/
theorem as_E {a : Nat} (h : a < 256) (h0 : a ≠ 0) : ∃ m, m < 255 ∧ a = E m := ⟨L a, L_lt h h0, (E_L h h0).symm⟩
theorem mul_comm {a b : Nat} (ha : a < 256) (hb : b < 256) : mul a b = mul b a := by
  by_cases h : a = 0
  · rw [h, zero_mul hb, mul_zero hb]
  by_cases h' : b = 0
  · rw [h', zero_mul ha, mul_zero ha]
  obtain ⟨m, _, rfl⟩ := as_E ha h
  obtain ⟨n, _, rfl⟩ := as_E hb h'
  rw [E_add, E_add, Nat.add_comm]
theorem mul_assoc {a b c : Nat} (ha : a < 256) (hb : b < 256) (hc : c < 256) : mul a (mul b c) = mul (mul a b) c := by
  by_cases h : a = 0
  · rw [h, zero_mul (mul_lt hb), zero_mul hb, zero_mul hc]
  by_cases h' : b = 0
  · rw [h', zero_mul hc, mul_zero ha, zero_mul hc]
  by_cases h2 : c = 0
  · rw [h2, mul_zero hb, mul_zero ha, mul_zero (mul_lt ha)]
  obtain ⟨m, _, rfl⟩ := as_E ha h
  obtain ⟨n, _, rfl⟩ := as_E hb h'
  obtain ⟨l, _, rfl⟩ := as_E hc h2
  rw [E_add, E_add, E_add, E_add, Nat.add_assoc]
theorem mul_eq_zero {a b : Nat} (ha : a < 256) (hb : b < 256) : mul a b = 0 ↔ a = 0 ∨ b = 0 := by
  constructor
  · intro h
    by_cases h1 : a = 0
    · exact .inl h1
    by_cases h2 : b = 0
    · exact .inr h2
    obtain ⟨m, _, rfl⟩ := as_E ha h1
    obtain ⟨n, _, rfl⟩ := as_E hb h2
    rw [E_add] at h
    exact absurd h (E_ne _)
  · rintro (h | h)
    · rw [h, zero_mul hb]
    · rw [h, mul_zero ha]
/-- Powers. -/
def pw (a n : Nat) : Nat := if n = 0 then 1 else if a = 0 then 0 else E (L a * n)
theorem pw_lt (a n : Nat) : pw a n < 256 := by
  unfold pw
  split
  · omega
  · split
    · omega
    · exact E_lt _
theorem pw_E (m n : Nat) : pw (E m) n = E (m * n) := by
  unfold pw
  split
  · next h => rw [h, Nat.mul_zero]; rfl
  · rw [if_neg (E_ne m), L_E_mod, ← E_mod, ← E_mod (m * n)]
    rw [Nat.mod_mul_mod]
theorem pw_zero (a : Nat) : pw a 0 = 1 := by simp [pw]
theorem pw_succ {a : Nat} (ha : a < 256) (n : Nat) : pw a (n + 1) = mul (pw a n) a := by
  by_cases h : a = 0
  · subst h
    simp only [pw, if_neg (Nat.succ_ne_zero n), if_true]
    split
    · rfl
    · rfl
  · obtain ⟨m, _, rfl⟩ := as_E ha h
    rw [pw_E, pw_E, E_add, Nat.mul_add, Nat.mul_one]
theorem pw_add {a : Nat} (ha : a < 256) (m n : Nat) : pw a (m + n) = mul (pw a m) (pw a n) := by
  by_cases h : a = 0
  · subst h
    simp only [pw, if_true]
    by_cases h1 : m = 0 <;> by_cases h2 : n = 0 <;> simp [h1, h2] <;> rfl
  · obtain ⟨l, _, rfl⟩ := as_E ha h
    rw [pw_E, pw_E, pw_E, E_add, Nat.mul_add]
theorem pw_sq {a : Nat} (ha : a < 256) (n : Nat) : pw (mul a a) n = pw a (2 * n) := by
  by_cases h : a = 0
  · subst h
    rw [zero_mul (by omega)]
    simp only [pw, if_true]
    by_cases h1 : n = 0
    · simp [h1]
    · rw [if_neg h1, if_neg (by omega)]
  · obtain ⟨l, _, rfl⟩ := as_E ha h
    rw [E_add, pw_E, pw_E]
    congr 1
    rw [Nat.mul_left_comm, Nat.two_mul, Nat.add_mul]
theorem pw_mod {a : Nat} (ha : a < 256) (h : a ≠ 0) (n : Nat) : pw a (n % 255) = pw a n := by
  obtain ⟨l, _, rfl⟩ := as_E ha h
  rw [pw_E, pw_E, ← E_mod, ← E_mod (l * n), Nat.mul_mod_mod]
theorem inv_mul {a : Nat} (ha : a < 256) (h : a ≠ 0) : mul a (pw a 254) = 1 := by
  obtain ⟨l, _, rfl⟩ := as_E ha h
  rw [pw_E, E_add, show l + l * 254 = 0 + 255 * l by omega, E_rounds]
  rfl
/-- Just one byte times it is 1. -/
theorem inv_unique {a b : Nat} (ha : a < 256) (hb : b < 256) (h : mul a b = 1) : b = pw a 254 := by
  have h0 : a ≠ 0 := by
    rintro rfl
    rw [zero_mul hb] at h
    omega
  have hm : mul (pw a 254) (mul a b) = pw a 254 := by rw [h, mul_one (pw_lt _ _)]
  rw [mul_assoc (pw_lt _ _) ha hb, mul_comm (pw_lt _ _) ha, inv_mul ha h0, mul_comm (by omega) hb, mul_one hb] at hm
  exact hm
end Go.Proofs.Ytegnjcehklldpaa.GfMath
