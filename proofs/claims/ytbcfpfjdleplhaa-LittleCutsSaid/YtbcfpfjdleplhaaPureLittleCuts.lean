/- Bytes that are read in two parts, and the rest, are all of them; a number of bytes is that of its lowest and highest ones. Conditions: none. -/
import Derived.Test.YtbcfpfjdleplhaaLittleLib
import Derived.Test.YtbcfpfjdleplhaaQ3
set_option linter.unusedVariables false
set_option linter.unusedSimpArgs false
namespace Go.Proofs.Ytbcfpfjdleplhaa.Pure
open Go.RowKit Go.Proofs.Ytbcfpfjdleplhaa.Q Go.Proofs.YtbcfpfjdleplhaaW.PrintWords Go.Proofs.YtbcfpfjdleplhaaW.PrintLast Go.Proofs.YtbcfpfjdleplhaaW.PrintMore Go.Proofs.Ytbcfpfjdleplhaa.LittleLib
theorem and255 (x : Int) : ∃ m : Nat, m < 256 ∧ Go.bits .and .i64 x 255 = (m : Int) := by
  refine ⟨(BitVec.ofInt 64 x &&& BitVec.ofInt 64 255).toNat, ?_, ?_⟩
  · rw [BitVec.toNat_and]
    refine Nat.lt_of_le_of_lt Nat.and_le_right ?_
    decide
  · have h : (BitVec.ofInt 64 x &&& BitVec.ofInt 64 255).toNat < 256 := by
      rw [BitVec.toNat_and]
      exact Nat.lt_of_le_of_lt Nat.and_le_right (by decide)
    show IntKind.i64.wrap ((BitVec.ofInt 64 x &&& BitVec.ofInt 64 255).toNat : Int) = _
    rw [IntKind.wrap_i64]
    omega
theorem bytes_f {l : List Int} {a m : Nat} (ha : a ≤ l.length) (hl : l.length < 140737488355328) : little_Reader_Bytes.f l a false m = some (if l.length < a + m then ([], (a : Int), true) else ((l.drop a).take m, ((a + m : Nat) : Int), false)) := by
  unfold little_Reader_Bytes.f
  have e : mx (m : Int) 0 = (m : Int) := by unfold mx; split <;> omega
  rw [if_pos ⟨by omega, by omega, hl⟩, e]
  by_cases h : l.length < a + m
  · rw [if_pos (.inr (by omega)), if_pos h]
  · rw [if_neg (by simp; omega), if_neg h]
    congr 2
    rw [show ((a : Int) + m).toNat = a + m by omega, Int.toNat_natCast, List.drop_take, show a + m - a = m by omega]
theorem bytes_s {l : List Int} {a : Nat} (ha : a ≤ l.length) (hl : l.length < 140737488355328) (n : Int) : little_Reader_Bytes.f l a true n = some ([], (a : Int), true) := by
  unfold little_Reader_Bytes.f
  rw [if_pos ⟨by omega, by omega, hl⟩, if_pos (.inl rfl)]
theorem left_f {l : List Int} {a : Nat} (s : Bool) (ha : a ≤ l.length) (hl : l.length < 140737488355328) : little_Reader_Left.f l a s = some (((l.length - a : Nat) : Int), (a : Int), s) := by
  unfold little_Reader_Left.f
  have e : wrap64 ((l.length : Int) - (a : Int)) = ((l.length - a : Nat) : Int) := by unfold wrap64; omega
  rw [e]
theorem join_step (k : Nat) (ls : List (List Int)) (acc : List Int) (i : Nat) (h : i < ls.length) (hl : acc.length + (ls.getD i []).length < 140737488355328) (hn : ls.length ≤ 1000) : footlockerref01_Join.l0 (k + 1) ls acc i = footlockerref01_Join.l0 k ls (acc ++ ls.getD i []) ((i + 1 : Nat) : Int) := by
  have r : rd_L1 ls (i : Int) = ls.getD i [] := by unfold rd_L1; rw [Int.toNat_natCast]
  rw [footlockerref01_Join.l0, r, if_pos (by omega), if_pos (by omega), if_pos hl, next_ h (by omega)]
theorem join3 (x y z : List Int) (h : x.length + y.length + z.length < 140737488355328) : footlockerref01_Join.f 500 [x, y, z] = some (x ++ y ++ z) := by
  unfold footlockerref01_Join.f
  have h0 := join_step 499 [x, y, z] [] 0 (by show 0 < 3; omega) (by show 0 + x.length < _; omega) (by show 3 ≤ 1000; omega)
  have h1 := join_step 498 [x, y, z] ([] ++ x) 1 (by show 1 < 3; omega) (by show ([] ++ x).length + y.length < _; rw [List.nil_append]; omega) (by show 3 ≤ 1000; omega)
  have h2 := join_step 497 [x, y, z] ([] ++ x ++ y) 2 (by show 2 < 3; omega) (by show ([] ++ x ++ y).length + z.length < _; rw [List.nil_append, List.length_append]; omega) (by show 3 ≤ 1000; omega)
  have e0 : footlockerref01_Join.l0 500 [x, y, z] [] 0 = footlockerref01_Join.l0 499 [x, y, z] ([] ++ x) ((1 : Nat) : Int) := h0
  have e1 : footlockerref01_Join.l0 499 [x, y, z] ([] ++ x) ((1 : Nat) : Int) = footlockerref01_Join.l0 498 [x, y, z] ([] ++ x ++ y) ((2 : Nat) : Int) := h1
  have e2 : footlockerref01_Join.l0 498 [x, y, z] ([] ++ x ++ y) ((2 : Nat) : Int) = footlockerref01_Join.l0 497 [x, y, z] ([] ++ x ++ y ++ z) ((3 : Nat) : Int) := h2
  rw [e0, e1, e2, footlockerref01_Join.l0, if_neg (by show ¬ (3 : Int) < 3; omega), List.nil_append]
theorem or_high {g h : Nat} (hg : g < 4294967296) (hh : h < 4294967296) : Go.bits .or .u64 (g : Int) (IntKind.u64.wrap ((h : Int) * 4294967296)) = ((g + 4294967296 * h : Nat) : Int) := by
  have e : IntKind.u64.wrap ((h : Int) * 4294967296) = ((4294967296 * h : Nat) : Int) := by
    rw [wraps_u64 _ (by omega) (by show (h : Int) * 4294967296 < 18446744073709551616; omega)]
    omega
  rw [e]
  have h1 : g < 2 ^ 64 := by show g < 18446744073709551616; omega
  have h2 : 4294967296 * h < 2 ^ 64 := by show 4294967296 * h < 18446744073709551616; omega
  rw [(bits_nat .u64 64 (by decide) wraps_u64 g (4294967296 * h) h1 h2).2, Nat.or_comm]
  have := Nat.two_pow_add_eq_or_of_lt (i := 32) (b := g) (by show g < 4294967296; exact hg) h
  rw [show (4294967296 : Nat) = 2 ^ 32 from rfl, ← this, Nat.add_comm]
theorem cut_j0 {l : List Int} (hl : Bytes l) (h200 : l.length ≤ 200) : footlockerlaw07_LittleCuts.j0 500 l false = some true := by
  simp only [footlockerlaw07_LittleCuts.j0]
  obtain ⟨lo, hlo⟩ : ∃ lo : Nat, lo = min (min l.length 8) 4 := ⟨_, rfl⟩
  obtain ⟨hi, hhi⟩ : ∃ hi : Nat, hi = min l.length 8 - 4 := ⟨_, rfl⟩
  have e1 : mn (mn (l.length : Int) 8) 4 = (lo : Int) := by unfold mn; (repeat' split) <;> omega
  have e2 : mx (mn (l.length : Int) 8 - 4) 0 = (hi : Int) := by unfold mn mx; (repeat' split) <;> omega
  rw [if_neg (by decide), e1, e2, get_f (by omega) hl]
  simp only [Option.bind_some]
  have e3 : ((lo : Int) + (hi : Int)).toNat = lo + hi := by omega
  rw [if_pos (by omega), if_pos (by omega), Int.toNat_natCast, get_f (by omega) (hl.take lo)]
  simp only [Option.bind_some]
  rw [if_pos (by omega), if_pos (by omega), e3, get_f (by omega) ((hl.take (lo + hi)).drop lo)]
  simp only [Option.bind_some]
  have t1 : (l.take lo).take 8 = l.take lo := List.take_of_length_le (by rw [List.length_take]; omega)
  have t2 : ((l.take (lo + hi)).drop lo).take 8 = (l.take (lo + hi)).drop lo := List.take_of_length_le (by rw [List.length_drop, List.length_take]; omega)
  have t3 : l.take 8 = l.take lo ++ (l.take (lo + hi)).drop lo := by
    have h1 : l.take 8 = l.take (lo + hi) := by rw [List.take_eq_take_iff]; omega
    have h2 := List.take_append_drop lo (l.take (lo + hi))
    rw [List.take_take, show min lo (lo + hi) = lo by omega] at h2
    rw [h1, h2]
  have hg1 := G_lt (hl.take lo)
  have hg2 := G_lt ((hl.take (lo + hi)).drop lo)
  have hl1 : (l.take lo).length = lo := by rw [List.length_take]; omega
  have hl2 : ((l.take (lo + hi)).drop lo).length = hi := by rw [List.length_drop, List.length_take]; omega
  have p1 : 256 ^ lo ≤ 256 ^ 4 := Nat.pow_le_pow_right (by omega) (by omega)
  have p2 : 256 ^ hi ≤ 256 ^ 4 := Nat.pow_le_pow_right (by omega) (by omega)
  have p4 : (256 : Nat) ^ 4 = 4294967296 := by decide
  rw [hl1] at hg1
  rw [hl2] at hg2
  rw [p4] at p1 p2
  rw [t1, t2, t3, G_append, hl1]
  by_cases h4 : lo = 4
  · rw [or_high (Nat.lt_of_lt_of_le hg1 p1) (Nat.lt_of_lt_of_le hg2 p2), h4, p4, beq_self_eq_true]
  · have h0 : hi = 0 := by omega
    have hn : (l.take (lo + hi)).drop lo = [] := List.eq_nil_of_length_eq_zero (by rw [hl2, h0])
    rw [or_high (Nat.lt_of_lt_of_le hg1 p1) (Nat.lt_of_lt_of_le hg2 p2), hn]
    show some (((G (l.take lo) + 256 ^ lo * 0 : Nat) : Int) == ((G (l.take lo) + 4294967296 * 0 : Nat) : Int)) = some true
    rw [Nat.mul_zero, Nat.mul_zero, beq_self_eq_true]
theorem rest_s {l : List Int} {a : Nat} (ha : a ≤ l.length) (hL : l.length < 140737488355328) : little_Reader_Rest.f l (a : Int) true = some ([], (a : Int), true) := by
  unfold little_Reader_Rest.f
  rw [left_f true ha hL, Option.bind_some]
  show ((little_Reader_Bytes.f l ((a : Nat) : Int) true _).bind _) = _
  rw [bytes_s ha hL, Option.bind_some]
theorem rest_f {l : List Int} {a : Nat} (ha : a ≤ l.length) (hL : l.length < 140737488355328) : little_Reader_Rest.f l (a : Int) false = some (l.drop a, ((l.length : Nat) : Int), false) := by
  unfold little_Reader_Rest.f
  rw [left_f false ha hL, Option.bind_some]
  show ((little_Reader_Bytes.f l ((a : Nat) : Int) false ((l.length - a : Nat) : Int)).bind _) = _
  rw [bytes_f ha hL, Option.bind_some, if_neg (by omega)]
  show some ((l.drop a).take (l.length - a), ((a + (l.length - a) : Nat) : Int), false) = _
  rw [List.take_of_length_le (by rw [List.length_drop]; omega), show a + (l.length - a) = l.length by omega]
theorem short_end {l : List Int} (hl : Bytes l) (h200 : l.length ≤ 200) (a : Nat) (ha : a ≤ l.length) :
    ((little_Reader_Short.f l (a : Int) true).bind fun bt231 => (if bt231.1 = true then (if ((([] : List Int).length : Nat) : Int) = 0 then ((little_Reader_At.f l bt231.2.1 bt231.2.2).bind fun bt234 => (footlockerlaw07_LittleCuts.j0 500 l (decide (bt234.1 > (l.length : Int))))) else (footlockerlaw07_LittleCuts.j0 500 l true)) else (footlockerlaw07_LittleCuts.j0 500 l true))) = some true := by
  rw [show little_Reader_Short.f l (a : Int) true = some (true, (a : Int), true) from rfl, Option.bind_some, if_pos rfl, if_pos (show ((([] : List Int).length : Nat) : Int) = 0 from rfl)]
  show ((little_Reader_At.f l (a : Int) true).bind _) = _
  rw [show little_Reader_At.f l (a : Int) true = some ((a : Int), (a : Int), true) from rfl, Option.bind_some]
  show footlockerlaw07_LittleCuts.j0 500 l (decide ((a : Int) > (l.length : Int))) = some true
  rw [decide_eq_false (by omega)]
  exact cut_j0 hl h200
theorem LittleCuts : footlockerlaw07_LittleCuts.Pure := by
  intro l a1 a2 h1 h2 hl h3 h4
  obtain ⟨m, hm, em⟩ := and255 a1
  obtain ⟨n, hn, en⟩ := and255 a2
  refine ⟨500, ?_⟩
  unfold footlockerlaw07_LittleCuts.f footlockerlaw07_alive.f
  simp only [Option.bind_some, if_true]
  by_cases h200 : (l.length : Int) > 200
  · rw [if_pos h200]
  · have hL : l.length < 140737488355328 := by omega
    have b0 := bytes_f (l := l) (a := 0) (m := m) (by omega) hL
    rw [Nat.zero_add, List.drop_zero] at b0
    rw [if_neg h200, em, en, show little_Read.f l = some (l, 0, false) from rfl, Option.bind_some]
    show ((little_Reader_Bytes.f l ((0 : Nat) : Int) false (m : Int)).bind _) = _
    rw [b0, Option.bind_some]
    have hw : wrap64 ((m : Int) + (n : Int)) = ((m + n : Nat) : Int) := by unfold wrap64; omega
    rw [hw]
    by_cases c1 : l.length < m
    · rw [if_pos c1]
      show ((little_Reader_Bytes.f l ((0 : Nat) : Int) true (n : Int)).bind _) = _
      rw [bytes_s (by omega) hL, Option.bind_some]
      show ((little_Reader_Rest.f l ((0 : Nat) : Int) true).bind _) = _
      have hr : little_Reader_Rest.f l ((0 : Nat) : Int) true = some ([], ((0 : Nat) : Int), true) := by
        unfold little_Reader_Rest.f
        rw [left_f true (by omega) hL, Option.bind_some]
        show ((little_Reader_Bytes.f l ((0 : Nat) : Int) true _).bind _) = _
        rw [bytes_s (by omega) hL, Option.bind_some]
      rw [hr, Option.bind_some, if_neg (by omega)]
      exact short_end hl (by omega) 0 (by omega)
    · rw [if_neg c1]
      have b1 := bytes_f (l := l) (a := m) (m := n) (by omega) hL
      show ((little_Reader_Bytes.f l ((m : Nat) : Int) false (n : Int)).bind _) = _
      rw [b1, Option.bind_some]
      by_cases c2 : l.length < m + n
      · rw [if_pos c2]
        show ((little_Reader_Rest.f l ((m : Nat) : Int) true).bind _) = _
        rw [rest_s (by omega) hL, Option.bind_some, if_neg (by omega)]
        exact short_end hl (by omega) m (by omega)
      · rw [if_neg c2]
        show ((little_Reader_Rest.f l ((m + n : Nat) : Int) false).bind _) = _
        rw [rest_f (by omega) hL, Option.bind_some, if_pos (by omega)]
        show ((little_Reader_Short.f l ((l.length : Nat) : Int) false).bind _) = _
        rw [show little_Reader_Short.f l ((l.length : Nat) : Int) false = some (false, ((l.length : Nat) : Int), false) from rfl, Option.bind_some]
        show (if false = true then _ else (if (((l.take m).length : Nat) : Int) = (m : Int) then (if ((((l.drop m).take n).length : Nat) : Int) = (n : Int) then ((footlockerref01_Join.f 500 [l.take m, (l.drop m).take n, l.drop (m + n)]).bind fun t227 => ((footlockerref01_Same.f 500 t227 l).bind fun t230 => (some t230))) else (some false)) else (some false))) = some true
        have l1 : (l.take m).length = m := by rw [List.length_take]; omega
        have l2 : ((l.drop m).take n).length = n := by rw [List.length_take, List.length_drop]; omega
        have l3 : (l.drop (m + n)).length = l.length - (m + n) := List.length_drop
        have ej : l.take m ++ (l.drop m).take n ++ l.drop (m + n) = l := by
          rw [List.append_assoc, ← List.drop_drop, List.take_append_drop, List.take_append_drop]
        rw [if_neg (by decide), if_pos (by rw [l1]), if_pos (by rw [l2]), join3 _ _ _ (by omega), Option.bind_some, ej, same_f (by omega) (by omega), Option.bind_some]
        simp
end Go.Proofs.Ytbcfpfjdleplhaa.Pure
