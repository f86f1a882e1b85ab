/- What the printed functions of layer 7 (little), and the reference's, compute: numbers of several bytes. -/
import Derived.OpenShut
import Derived.Laws.BitsAllLaws
import Derived.Test.YtbcfpfjdleplhaaQ1
import Derived.Test.YtbcfpfjdleplhaaQ2
set_option linter.unusedVariables false
set_option linter.unusedSimpArgs false
namespace Go.Proofs.Ytbcfpfjdleplhaa.LittleLib
open Go.RowKit Go.Proofs.Ytbcfpfjdleplhaa.Q Go.Proofs.YtbcfpfjdleplhaaW.PrintWords Go.Proofs.YtbcfpfjdleplhaaW.PrintLast Go.Proofs.YtbcfpfjdleplhaaW.PrintMore

abbrev Bytes (l : List Int) : Prop := ∀ x ∈ l, (Lit.int .u8 x).wf = true
/-- A number's lowest bytes. -/
def P : Nat → Nat → List Int
  | 0, _ => []
  | s + 1, n => ((n % 256 : Nat) : Int) :: P s (n / 256)
/-- The number of bytes. -/
def G : List Int → Nat
  | [] => 0
  | b :: r => b.toNat + 256 * G r
theorem P_length : ∀ s n, (P s n).length = s
  | 0, _ => rfl
  | s + 1, n => by simp [P, P_length s]
theorem wf_byte {n : Nat} (h : n < 256) : (Lit.int .u8 (n : Int)).wf = true := by
  simp [Lit.wf, IntKind.min, IntKind.max, IntKind.signed, IntKind.bits]
  omega
theorem P_bytes : ∀ s n, Bytes (P s n)
  | 0, _ => fun x hx => by simp [P] at hx
  | s + 1, n => fun x hx => by
    rcases List.mem_cons.1 hx with rfl | h
    · exact wf_byte (Nat.mod_lt _ (by omega))
    · exact P_bytes s _ x h
theorem pow_pos (s : Nat) : 0 < 256 ^ s := Nat.pow_pos (by omega)
theorem G_P : ∀ s n, G (P s n) = n % 256 ^ s
  | 0, n => by simp [P, G, Nat.mod_one]
  | s + 1, n => by
    show (((n % 256 : Nat) : Int)).toNat + 256 * G (P s (n / 256)) = _
    rw [G_P s, Int.toNat_natCast, Nat.pow_succ, Nat.mul_comm (256 ^ s) 256, Nat.mod_mul]
theorem byte_bd {x : Int} (h : (Lit.int .u8 x).wf = true) : x.toNat < 256 ∧ ((x.toNat : Nat) : Int) = x := by
  have := bounds_u8 h
  omega
theorem G_lt : ∀ {l : List Int}, Bytes l → G l < 256 ^ l.length
  | [], _ => by simp [G]
  | b :: r, h => by
    have h1 := (byte_bd (h b List.mem_cons_self)).1
    have h2 := G_lt (fun x hx => h x (List.mem_cons_of_mem _ hx))
    show b.toNat + 256 * G r < 256 ^ (r.length + 1)
    rw [Nat.pow_succ]
    have := Nat.mul_le_mul_left 256 (Nat.succ_le_of_lt h2)
    omega
theorem G_append : ∀ (a b : List Int), G (a ++ b) = G a + 256 ^ a.length * G b
  | [], b => by simp [G]
  | x :: r, b => by
    show x.toNat + 256 * G (r ++ b) = x.toNat + 256 * G r + 256 ^ (r.length + 1) * G b
    rw [G_append r b, Nat.pow_succ, Nat.mul_add, Nat.mul_comm (256 ^ r.length) 256, Nat.mul_assoc, Nat.add_assoc]
theorem Bytes.take {l : List Int} (h : Bytes l) (n : Nat) : Bytes (l.take n) := fun x hx => h x (List.mem_of_mem_take hx)
theorem Bytes.drop {l : List Int} (h : Bytes l) (n : Nat) : Bytes (l.drop n) := fun x hx => h x (List.mem_of_mem_drop hx)
theorem Bytes.append {a b : List Int} (h : Bytes a) (h' : Bytes b) : Bytes (a ++ b) := fun x hx => by
  rcases List.mem_append.1 hx with h1 | h1
  · exact h x h1
  · exact h' x h1
/-- The P of a G. -/
theorem P_G : ∀ {l : List Int}, Bytes l → P l.length (G l) = l
  | [], _ => rfl
  | b :: r, h => by
    have h1 := byte_bd (h b List.mem_cons_self)
    show (((b.toNat + 256 * G r) % 256 : Nat) : Int) :: P r.length ((b.toNat + 256 * G r) / 256) = b :: r
    rw [show (b.toNat + 256 * G r) % 256 = b.toNat by omega, show (b.toNat + 256 * G r) / 256 = G r by omega, P_G (fun x hx => h x (List.mem_cons_of_mem _ hx)), h1.2]
theorem wraps_u64 (n : Int) (h₀ : 0 ≤ n) (h₁ : n < 2 ^ 64) : IntKind.u64.wrap n = n := by
  simp [IntKind.wrap, IntKind.bits, IntKind.signed]
  omega
theorem next_ {i n : Nat} (h : i < n) (hn : n ≤ 9223372036854775807) : wrap64 ((i : Int) + 1) = ((i + 1 : Nat) : Int) := by unfold wrap64; omega
/-- The size that is held. -/
def hs (size : Int) : Nat := min size.toNat 8
theorem held_f (size : Int) : little_held.f size = some ((hs size : Nat) : Int) := by
  unfold little_held.f hs mn mx
  (repeat' split) <;> congr 1 <;> omega
theorem put_l0 (s : Nat) (hs8 : s ≤ 8) : ∀ (d k i n : Nat) (acc : List Int), i + d = s → d < k → acc.length = i → n < 18446744073709551616 → little_Put.l0 k n acc s i = some (acc ++ P d n)
  | _, 0, _, _, _, _, hk, _, _ => by omega
  | 0, k + 1, i, n, acc, hi, _, _, _ => by
    simp only [little_Put.l0]
    rw [if_neg (by omega)]
    simp [P]
  | d + 1, k + 1, i, n, acc, hi, hk, ha, hn => by
    simp only [little_Put.l0]
    have e1 : (n : Int) / 256 = ((n / 256 : Nat) : Int) := by omega
    have e2 : (n : Int) % 256 = ((n % 256 : Nat) : Int) := by omega
    rw [if_pos (by omega), if_pos (by omega), e1, e2, next_ (n := s) (by omega) (by omega)]
    rw [put_l0 s hs8 d k (i + 1) (n / 256) _ (by omega) (by omega) (by rw [List.length_append, ha]; rfl) (by omega)]
    simp [P]
theorem put_f {k : Nat} (hk : 8 < k) {n : Nat} (hn : n < 18446744073709551616) (size : Int) : little_Put.f k n size = some (P (hs size) n) := by
  unfold little_Put.f
  rw [held_f]
  simp only [Option.bind_some]
  have h8 : hs size ≤ 8 := by unfold hs; omega
  have := put_l0 (hs size) h8 (hs size) k 0 n [] (by omega) (by omega) rfl hn
  simpa using this
theorem bits_or_bytes {a b : Nat} (ha : a < 72057594037927936) (hb : b < 256) : Go.bits .or .u64 ((a * 256 : Nat) : Int) (b : Int) = ((b + 256 * a : Nat) : Int) := by
  have := bits_join .u64 64 (by decide) wraps_u64 8 ((a * 256 : Nat) : Int) (b : Int) (by omega) (by show ((a * 256 : Nat) : Int) % 256 = 0; omega) (by show ((a * 256 : Nat) : Int) < 18446744073709551616; omega) (by omega) (by show (b : Int) < 256; omega) (by show (b : Int) < 18446744073709551616; omega)
  rw [this]
  omega
theorem rd_nat {l : List Int} (h : Bytes l) {i : Nat} (hi : i < l.length) : rd l (i : Int) = (((l[i]'hi).toNat : Nat) : Int) ∧ (l[i]'hi).toNat < 256 := by
  have hb := byte_bd (h _ (List.getElem_mem hi))
  refine ⟨?_, hb.1⟩
  unfold rd
  rw [Int.toNat_natCast, List.getD_eq_getElem?_getD, List.getElem?_eq_getElem hi, Option.getD_some, hb.2]
theorem get_l0 {l : List Int} (h : Bytes l) : ∀ (i k : Nat), i ≤ l.length → l.length ≤ 8 + (l.length - min l.length 8) → i ≤ min l.length 8 → i < k →
    little_Get.l0 k l ((G ((l.take (min l.length 8)).drop i) : Nat) : Int) ((i : Int) - 1) = some ((G (l.take 8) : Nat) : Int)
  | _, 0, _, _, _, hk => by omega
  | 0, k + 1, _, _, _, _ => by
    simp only [little_Get.l0]
    rw [if_neg (by omega), List.drop_zero]
    congr 3
    rw [List.take_eq_take_iff]
    omega
  | i + 1, k + 1, hi, h8, hm, hk => by
    simp only [little_Get.l0]
    have e0 : ((i + 1 : Nat) : Int) - 1 = (i : Int) := by omega
    obtain ⟨r1, r2⟩ := rd_nat h (show i < l.length by omega)
    rw [e0, if_pos (by omega), if_pos (by omega), if_pos (by omega), r1]
    have hb := (h.take (min l.length 8)).drop (i + 1)
    have hl : ((l.take (min l.length 8)).drop (i + 1)).length ≤ 7 := by rw [List.length_drop, List.length_take]; omega
    have hg := G_lt hb
    have hp : 256 ^ ((l.take (min l.length 8)).drop (i + 1)).length ≤ 256 ^ 7 := Nat.pow_le_pow_right (by omega) hl
    have hp7 : (256 : Nat) ^ 7 = 72057594037927936 := by decide
    rw [hp7] at hp
    have hu : ((l.take (min l.length 8)).drop i) = (l[i]'(by omega)) :: ((l.take (min l.length 8)).drop (i + 1)) := by
      rw [List.drop_eq_getElem_cons (by rw [List.length_take]; omega), List.getElem_take]
    have hrec := get_l0 h i k (by omega) h8 (by omega) (by omega)
    rw [hu] at hrec
    simp only [G] at hrec
    generalize G ((l.take (min l.length 8)).drop (i + 1)) = a at hg hrec
    have hlt : a < 72057594037927936 := Nat.lt_of_lt_of_le hg hp
    clear hp hg hp7
    have e1 : IntKind.u64.wrap ((a : Int) * 256) = ((a * 256 : Nat) : Int) := by
      rw [wraps_u64 _ (by omega) (by show (a : Int) * 256 < 18446744073709551616; omega)]
      omega
    have e2 : wrap64 ((i : Int) - 1) = (i : Int) - 1 := by unfold wrap64; omega
    rw [e1, wraps_u64 _ (by omega) (by show (((l[i]'(by omega)).toNat : Nat) : Int) < 18446744073709551616; omega), bits_or_bytes hlt r2, e2]
    exact hrec
theorem get_f {k : Nat} (hk : 8 < k) {l : List Int} (h : Bytes l) : little_Get.f k l = some ((G (l.take 8) : Nat) : Int) := by
  unfold little_Get.f
  have e : mn (l.length : Int) 8 = ((min l.length 8 : Nat) : Int) := by unfold mn; split <;> omega
  rw [e]
  have := get_l0 h (min l.length 8) k (by omega) (by omega) (by omega) (by omega)
  rw [List.drop_eq_nil_of_le (by rw [List.length_take]; omega)] at this
  exact this
/-- Sameness of rows, as the references tell it. -/
theorem same_l0 {a b : List Int} (hl : a.length = b.length) (hn : a.length ≤ 9223372036854775807) : ∀ (d k i : Nat), i + d = a.length → d < k → footlockerref01_Same.l0 k a b i = some (decide (a.drop i = b.drop i))
  | _, 0, _, _, hk => by omega
  | 0, k + 1, i, hi, _ => by
    simp only [footlockerref01_Same.l0]
    rw [if_neg (by omega), List.drop_eq_nil_of_le (by omega), List.drop_eq_nil_of_le (by omega)]
    simp
  | d + 1, k + 1, i, hi, hk => by
    simp only [footlockerref01_Same.l0]
    have ha : i < a.length := by omega
    have hb : i < b.length := by omega
    have ea : rd a (i : Int) = a[i] := by unfold rd; rw [Int.toNat_natCast, List.getD_eq_getElem?_getD, List.getElem?_eq_getElem ha, Option.getD_some]
    have eb : rd b (i : Int) = b[i] := by unfold rd; rw [Int.toNat_natCast, List.getD_eq_getElem?_getD, List.getElem?_eq_getElem hb, Option.getD_some]
    rw [if_pos (by omega), if_pos (by omega), if_pos (by omega), ea, eb, List.drop_eq_getElem_cons ha, List.drop_eq_getElem_cons hb, next_ ha hn]
    by_cases h : a[i] = b[i]
    · rw [if_pos h, same_l0 hl hn d k (i + 1) (by omega) (by omega)]
      simp only [List.cons.injEq, h, true_and]
    · rw [if_neg h]
      simp only [List.cons.injEq, h, false_and, decide_false]
theorem same_f {k : Nat} {a b : List Int} (hn : a.length ≤ 9223372036854775807) (hk : a.length < k) : footlockerref01_Same.f k a b = some (decide (a = b)) := by
  unfold footlockerref01_Same.f
  by_cases h : a.length = b.length
  · rw [if_pos (by omega)]
    exact same_l0 h hn a.length k 0 (by omega) hk
  · rw [if_neg (by omega)]
    have : a ≠ b := fun e => h (by rw [e])
    simp [this]
end Go.Proofs.Ytbcfpfjdleplhaa.LittleLib
