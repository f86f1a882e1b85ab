/- The machine of values: numbers, rows of numbers. -/
import Derived.Test.YtbmidddpddiopaaDoorAbV7
set_option linter.unusedVariables false
set_option linter.unusedSimpArgs false
namespace Go.Proofs.AbM
open Go.RowKit
/-! ### Numbers that fit -/
theorem wr64 {x : Int} (h1 : -9223372036854775808 ≤ x) (h2 : x ≤ 9223372036854775807) : IntKind.i64.wrap x = x := by rw [IntKind.wrap_i64]; omega
theorem wr32 {x : Int} (h1 : -2147483648 ≤ x) (h2 : x ≤ 2147483647) : IntKind.i32.wrap x = x := by rw [IntKind.wrap_i32]; omega
theorem wru64 {x : Int} (h1 : 0 ≤ x) (h2 : x ≤ 18446744073709551615) : IntKind.u64.wrap x = x := by rw [IntKind.wrap_u64]; omega
theorem wru32 {x : Int} (h1 : 0 ≤ x) (h2 : x ≤ 4294967295) : IntKind.u32.wrap x = x := by rw [IntKind.wrap_u32]; omega
theorem wru16 {x : Int} (h1 : 0 ≤ x) (h2 : x ≤ 65535) : IntKind.u16.wrap x = x := by rw [IntKind.wrap_u16]; omega
theorem wru8 {x : Int} (h1 : 0 ≤ x) (h2 : x ≤ 255) : IntKind.u8.wrap x = x := by rw [IntKind.wrap_u8]; omega
theorem c_add (a b : Nat) : (a : Int) + (b : Int) = ((a + b : Nat) : Int) := by omega
theorem c_mul (a b : Nat) : (a : Int) * (b : Int) = ((a * b : Nat) : Int) := by simp
theorem c_sub {a b : Nat} (h : b ≤ a) : (a : Int) - (b : Int) = ((a - b : Nat) : Int) := by omega
theorem c_addn (a n : Nat) : (a : Int) + (no_index (OfNat.ofNat n)) = ((a + OfNat.ofNat n : Nat) : Int) := (Int.natCast_add a n).symm
theorem c_nadd (a n : Nat) : (no_index (OfNat.ofNat n)) + (a : Int) = ((OfNat.ofNat n + a : Nat) : Int) := (Int.natCast_add n a).symm
theorem c_muln (a n : Nat) : (a : Int) * (no_index (OfNat.ofNat n)) = ((a * OfNat.ofNat n : Nat) : Int) := (Int.natCast_mul a n).symm
theorem c_nmul (a n : Nat) : (no_index (OfNat.ofNat n)) * (a : Int) = ((OfNat.ofNat n * a : Nat) : Int) := (Int.natCast_mul n a).symm
theorem c_subn {a n : Nat} (h : (OfNat.ofNat n : Nat) ≤ a) : (a : Int) - (no_index (OfNat.ofNat n)) = ((a - OfNat.ofNat n : Nat) : Int) := (Int.ofNat_sub h).symm
theorem c_nsub {a n : Nat} (h : a ≤ (OfNat.ofNat n : Nat)) : (no_index (OfNat.ofNat n)) - (a : Int) = ((OfNat.ofNat n - a : Nat) : Int) := (Int.ofNat_sub h).symm
theorem c_divn (a n : Nat) : (a : Int) / (no_index (OfNat.ofNat n)) = ((a / OfNat.ofNat n : Nat) : Int) := (Int.natCast_ediv a n).symm
theorem c_modn (a n : Nat) : (a : Int) % (no_index (OfNat.ofNat n)) = ((a % OfNat.ofNat n : Nat) : Int) := (Int.natCast_emod a n).symm
theorem c_div (a b : Nat) : (a : Int) / (b : Int) = ((a / b : Nat) : Int) := (Int.natCast_ediv a b).symm
theorem c_mod (a b : Nat) : (a : Int) % (b : Int) = ((a % b : Nat) : Int) := (Int.natCast_emod a b).symm
theorem c_pow (n : Nat) (k : Nat) : (no_index (OfNat.ofNat n) : Int) ^ k = ((OfNat.ofNat n ^ k : Nat) : Int) := (Int.natCast_pow n k).symm
theorem tdiv_nn {a b : Int} (h : 0 ≤ a) : a.tdiv b = a / b := Int.tdiv_eq_ediv_of_nonneg h
theorem tmod_nn {a b : Int} (h : 0 ≤ a) : a.tmod b = a % b := Int.tmod_eq_emod_of_nonneg h
theorem c_tdivn (a n : Nat) : (a : Int).tdiv (no_index (OfNat.ofNat n)) = ((a / OfNat.ofNat n : Nat) : Int) := (Int.tdiv_eq_ediv_of_nonneg (Int.natCast_nonneg a)).trans (c_divn a n)
theorem c_tmodn (a n : Nat) : (a : Int).tmod (no_index (OfNat.ofNat n)) = ((a % OfNat.ofNat n : Nat) : Int) := (Int.tmod_eq_emod_of_nonneg (Int.natCast_nonneg a)).trans (c_modn a n)
theorem c_tdiv (a b : Nat) : (a : Int).tdiv (b : Int) = ((a / b : Nat) : Int) := (Int.tdiv_eq_ediv_of_nonneg (Int.natCast_nonneg a)).trans (c_div a b)
theorem c_tmod (a b : Nat) : (a : Int).tmod (b : Int) = ((a % b : Nat) : Int) := (Int.tmod_eq_emod_of_nonneg (Int.natCast_nonneg a)).trans (c_mod a b)
theorem c_lt (a b : Nat) : ((a : Int) < (b : Int)) = (a < b) := propext (by omega)
theorem c_le (a b : Nat) : ((a : Int) ≤ (b : Int)) = (a ≤ b) := propext (by omega)
theorem c_eq (a b : Nat) : ((a : Int) = (b : Int)) = (a = b) := propext (by omega)
theorem c_ltn (a n : Nat) : ((a : Int) < (no_index (OfNat.ofNat n))) = (a < OfNat.ofNat n) := propext (by show (a : Int) < ((n : Nat) : Int) ↔ a < n; omega)
theorem c_len (a n : Nat) : ((a : Int) ≤ (no_index (OfNat.ofNat n))) = (a ≤ OfNat.ofNat n) := propext (by show (a : Int) ≤ ((n : Nat) : Int) ↔ a ≤ n; omega)
theorem c_nlt (a n : Nat) : ((no_index (OfNat.ofNat n)) < (a : Int)) = (OfNat.ofNat n < a) := propext (by show ((n : Nat) : Int) < (a : Int) ↔ n < a; omega)
theorem c_nle (a n : Nat) : ((no_index (OfNat.ofNat n)) ≤ (a : Int)) = (OfNat.ofNat n ≤ a) := propext (by show ((n : Nat) : Int) ≤ (a : Int) ↔ n ≤ a; omega)
theorem c_eqn (a n : Nat) : ((a : Int) = (no_index (OfNat.ofNat n))) = (a = OfNat.ofNat n) := propext (by show (a : Int) = ((n : Nat) : Int) ↔ a = n; omega)
theorem c_nn (a : Nat) : (0 ≤ (a : Int)) = True := eq_true (Int.natCast_nonneg a)
theorem c_beq (a b : Nat) : ((a : Int) == (b : Int)) = (a == b) := by rw [Bool.eq_iff_iff]; simp; omega
theorem c_beqn (a n : Nat) : ((a : Int) == (no_index (OfNat.ofNat n))) = (a == OfNat.ofNat n) := c_beq a n
theorem c_bne (a b : Nat) : ((a : Int) != (b : Int)) = (a != b) := by rw [bne, bne, c_beq]
theorem c_bnen (a n : Nat) : ((a : Int) != (no_index (OfNat.ofNat n))) = (a != OfNat.ofNat n) := c_bne a n
theorem c_if (p : Prop) [Decidable p] (a b : Nat) : (if p then (a : Int) else (b : Int)) = ((if p then a else b : Nat) : Int) := by split <;> rfl
theorem c_if1 (p : Prop) [Decidable p] (n b : Nat) : (if p then (no_index (OfNat.ofNat n)) else (b : Int)) = ((if p then OfNat.ofNat n else b : Nat) : Int) := by split <;> rfl
theorem c_if2 (p : Prop) [Decidable p] (a n : Nat) : (if p then (a : Int) else (no_index (OfNat.ofNat n))) = ((if p then a else OfNat.ofNat n : Nat) : Int) := by split <;> rfl
theorem gt_lt (a b : Int) : (a > b) = (b < a) := propext Iff.rfl
theorem ge_le (a b : Int) : (a ≥ b) = (b ≤ a) := propext Iff.rfl
/-- A number's value. -/
def iv (k : IntKind) (x : Nat) : AV := .sc (.int k (x : Int))
def ivI (k : IntKind) (x : Int) : AV := .sc (.int k x)
theorem iv_eq (k : IntKind) (x : Nat) : iv k x = .sc (.int k (x : Int)) := Eq.trans rfl rfl
theorem ivI_eq (k : IntKind) (x : Int) : ivI k x = .sc (.int k x) := Eq.trans rfl rfl
theorem iv_one (k : IntKind) (xs : List Nat) : (xs.map (iv k)).all AV.one = true := by simp [iv, AV.one]
theorem ivI_one (k : IntKind) (xs : List Int) : (xs.map (ivI k)).all AV.one = true := by simp [ivI, AV.one]
section
variable {P : Program} {G : Nat → AV} {h : VH} {K : AV → VH → Prop}
theorem ex_get {f : Nat → AV} {xs : List Nat} {i : Nat} {K : AV → Prop} : (∃ v, (xs.map f)[i]? = some v ∧ K v) = (i < xs.length ∧ K (f (xs.getD i 0))) := by
  apply propext
  rw [List.getElem?_map]
  constructor
  · rintro ⟨v, hv, hK⟩
    obtain ⟨x, hx, rfl⟩ := Option.map_eq_some_iff.1 hv
    exact ⟨(List.getElem?_eq_some_iff.1 hx).1, by rw [List.getD_eq_getElem?_getD, hx]; exact hK⟩
  · rintro ⟨hi, hK⟩
    rw [List.getD_eq_getElem?_getD, List.getElem?_eq_getElem hi] at hK
    exact ⟨_, by rw [List.getElem?_eq_getElem hi]; rfl, hK⟩
theorem ex_getI {f : Int → AV} {xs : List Int} {i : Nat} {K : AV → Prop} : (∃ v, (xs.map f)[i]? = some v ∧ K v) = (i < xs.length ∧ K (f (xs.getD i 0))) := by
  apply propext
  rw [List.getElem?_map]
  constructor
  · rintro ⟨v, hv, hK⟩
    obtain ⟨x, hx, rfl⟩ := Option.map_eq_some_iff.1 hv
    exact ⟨(List.getElem?_eq_some_iff.1 hx).1, by rw [List.getD_eq_getElem?_getD, hx]; exact hK⟩
  · rintro ⟨hi, hK⟩
    rw [List.getD_eq_getElem?_getD, List.getElem?_eq_getElem hi] at hK
    exact ⟨_, by rw [List.getElem?_eq_getElem hi]; rfl, hK⟩
theorem ex_getL {α : Type} {f : List α → AV} {xs : List (List α)} {i : Nat} {K : AV → Prop} : (∃ v, (xs.map f)[i]? = some v ∧ K v) = (i < xs.length ∧ K (f (xs.getD i []))) := by
  apply propext
  rw [List.getElem?_map]
  constructor
  · rintro ⟨v, hv, hK⟩
    obtain ⟨x, hx, rfl⟩ := Option.map_eq_some_iff.1 hv
    exact ⟨(List.getElem?_eq_some_iff.1 hx).1, by rw [List.getD_eq_getElem?_getD, hx]; exact hK⟩
  · rintro ⟨hi, hK⟩
    rw [List.getD_eq_getElem?_getD, List.getElem?_eq_getElem hi] at hK
    exact ⟨_, by rw [List.getElem?_eq_getElem hi]; rfl, hK⟩
theorem vBin_own {t : TypeId} {x y : Operand} {e e' : TypeId} {j o l : Nat} {nl : Bool} {cs : List AV} {K : AV → Prop} (hu : P.underlying t = some (.slice e)) (hj : h j = some (.cells e' nl cs)) (hK : K (.sc (.bool nl))) : vBin P .eql t x y (.own j o l) (.isl true 0 []) h K := .inr (.inr ⟨nl, e, by simp only [isNilV, hj], .inl ⟨rfl, rfl, hu⟩, .inl ⟨rfl, hK⟩⟩)
theorem m_drop {α β : Type} (f : α → β) (xs : List α) (n : Nat) : (xs.map f).drop n = (xs.drop n).map f := (List.map_drop ..).symm
theorem m_take {α β : Type} (f : α → β) (xs : List α) (n : Nat) : (xs.map f).take n = (xs.take n).map f := (List.map_take ..).symm
/-- Between kinds of numbers. -/
def vConvS (P : Program) (src dst : TypeId) (x : AV) (h : VH) (K : AV → VH → Prop) : Prop := vConv P src dst x h K
def eConv (s d : Option IntKind) (a : Int) (h : VH) (K : AV → VH → Prop) (orig : Prop) : Prop := match s, d with | some _, some kd => K (.sc (.int kd (kd.wrap a))) h | _, _ => orig
theorem eConv_ss (ks kd : IntKind) (a : Int) (o : Prop) : eConv (some ks) (some kd) a h K o = K (.sc (.int kd (kd.wrap a))) h := propext Iff.rfl
theorem vConv_e {src dst : TypeId} {k : IntKind} {a : Int} : vConv P src dst (.sc (.int k a)) h K = eConv (intK (P.underlying src)) (intK (P.underlying dst)) a h K (vConvS P src dst (.sc (.int k a)) h K) := by
  unfold eConv
  split
  · rename_i ks kd h1 h2
    rw [vConv_num (by rw [h1]; rfl) (by rw [h2]; rfl), h2]
    simp
  · rfl
/-- The bytes of a row, as a string. -/
theorem vConv_u8 {src dst e : TypeId} {nl : Bool} {l : Nat} {xs : List Nat} (h1 : P.underlying src = some (.slice e)) (h2 : P.underlying e = some (.int .u8)) (h3 : P.underlying dst = some .string) (hl : l = xs.length) (hK : K (.sc (.string (strN (xs.map Int.ofNat)))) h) : vConv P src dst (.isl nl l (xs.map (iv .u8))) h K :=
  ⟨e, xs.map Int.ofNat, h1, h2, h3, by rw [List.map_map]; rfl, by rw [List.length_map, hl], hK⟩
/-- Bytes converted to bytes: one's own row, from now on as it is. -/
def isB8 (P : Program) (t : TypeId) : Bool := match P.underlying t with
  | some (.slice e) => match P.underlying e with
    | some (.int .u8) => true
    | _ => false
  | _ => false
theorem isB8_inv {t : TypeId} (h : isB8 P t = true) : ∃ e, P.underlying t = some (.slice e) ∧ P.underlying e = some (.int .u8) := by
  unfold isB8 at h
  split at h
  · rename_i e he
    split at h
    · rename_i h2; exact ⟨e, he, h2⟩
    · cases h
  · cases h
theorem vConvF {t e' : TypeId} {j l : Nat} {cs : List AV} (hb : isB8 P t = true) (hj : h j = none) (hK : K (.isl false l cs) h) : vConv P t t (.own j 0 l) (hset h j (.cells e' false cs)) K := by
  obtain ⟨e, h1, h2⟩ := isB8_inv hb
  exact .inr ⟨rfl, e, e', cs, h1, h2, hset_at _ _ _, .inr ⟨rfl, by rwa [hdel_hset hj]⟩⟩
theorem set_iv (k : IntKind) (xs : List Nat) (i y : Nat) : (xs.map (iv k)).set i (.sc (.int k (y : Int))) = (xs.set i y).map (iv k) := (List.map_set ..).symm
theorem set_ivI (k : IntKind) (xs : List Int) (i : Nat) (y : Int) : (xs.map (ivI k)).set i (.sc (.int k y)) = (xs.set i y).map (ivI k) := (List.map_set ..).symm
theorem setV_map {α : Type} {f : α → AV} {xs : List α} {o : Nat} {v : AV} (ho : o < xs.length) : setV (xs.map f) o [v] = (xs.map f).set o v := setV_one (by rw [List.length_map]; exact ho)
theorem setV_z (a v : AV) (cs : List AV) : setV (a :: cs) 0 [v] = v :: cs := rfl
theorem setV_zs (a v : AV) (cs vs : List AV) : setV (a :: cs) 0 (v :: vs) = v :: setV cs 0 vs := by simp [setV]
theorem setV_zn (cs : List AV) : setV cs 0 [] = cs := by simp [setV]
theorem setV_s (a v : AV) (cs : List AV) (o : Nat) : setV (a :: cs) (o + 1) [v] = a :: setV cs o [v] := by
  unfold setV
  rw [show o + 1 + [v].length = (o + [v].length) + 1 by simp]
  rfl
theorem FrK.iso {j l : Nat} {e : TypeId} {nl : Bool} {cs : List AV} (hj : h j = none) (hK : K (.isl nl l cs) h) : FrK K (.own j 0 l) (hset h j (.cells e nl cs)) := .own1 (hset_at _ _ _) (by rwa [hdel_hset hj])
theorem FrK.iso2 {j l : Nat} {e : TypeId} {nl : Bool} {cs : List AV} (hj : h j = none) (hK : FrK K (.isl nl l cs) h) : FrK K (.own j 0 l) (hset h j (.cells e nl cs)) := .frz j (hset_at _ _ _) (.own l) (by rwa [hdel_hset hj])
theorem flat_len {α : Type} {f : α → List AV} {c : Nat} (hf : ∀ x, (f x).length = c) : ∀ xs : List α, (xs.flatMap f).length = xs.length * c
  | [] => by simp
  | x :: xs => by rw [List.flatMap_cons, List.length_append, flat_len hf xs, hf, List.length_cons, Nat.add_mul]; omega
/-- An element of several cells. -/
theorem flat_get {α : Type} {f : α → List AV} {c : Nat} (hf : ∀ x, (f x).length = c) (d : α) : ∀ (xs : List α) (i : Nat), i < xs.length → ((xs.flatMap f).drop (i * c)).take c = f (xs.getD i d)
  | [], i, h => by simp at h
  | x :: xs, 0, _ => by
    rw [Nat.zero_mul, List.drop_zero, List.flatMap_cons, List.take_append_of_le_length (by rw [hf]; exact Nat.le_refl _), List.take_of_length_le (by rw [hf]; exact Nat.le_refl _)]
    rfl
  | x :: xs, i + 1, h => by
    rw [List.flatMap_cons, show (i + 1) * c = (f x).length + i * c by rw [hf, Nat.add_mul]; omega, List.drop_append, List.drop_eq_nil_of_le (by omega), List.nil_append, Nat.add_sub_cancel_left]
    exact flat_get hf d xs i (by simpa using h)
theorem call_ok {A : FuncId → List AV → VH → (AV → VH → Prop) → Prop} {g : FuncId} {as : List AV} (hw : A g as h K) : vCall A g as h K := .inl hw
end
end Go.Proofs.AbM
