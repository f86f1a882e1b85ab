/- The machine of values: what a law's arguments are; what it tells of a law. -/
import Derived.Test.YtbmidddpddiopaaDoorAbV8
import Derived.Test.YtbmidddpddiopaaDoorAbRow
set_option linter.unusedVariables false
set_option linter.unusedSimpArgs false
namespace Go.Proofs.AbM
open Go.RowKit
section
variable {P : Program} {W0 : World} {G : Nat → AV}
theorem rd0_zr {a : Addr} {u : Value} (h : rd W0 [] a = some u) : zr W0 C0 a = some u := by
  unfold rd at h
  unfold zr
  split
  · rename_i hb; rw [if_pos hb] at h; exact h
  · rename_i hb
    rw [if_neg hb] at h
    split at h
    · cases h
    · split at h
      · rename_i hh; simp at hh
      · cases h
theorem rds_get {h : Hp} {a : Addr} : ∀ (k i : Nat) (vs : List Value), rds W0 h a i k = some vs → ∀ (r : Nat) (u : Value), vs[r]? = some u → rd W0 h (a.add (i + r)) = some u
  | 0, i, vs, hv, r, u, hr => by
    simp only [rds, Option.some.injEq] at hv
    subst hv; simp at hr
  | k + 1, i, vs, hv, r, u, hr => by
    simp only [rds] at hv
    obtain ⟨v, h1, h2⟩ := Option.bind_eq_some_iff.1 hv
    obtain ⟨us, h3, rfl⟩ := Option.map_eq_some_iff.1 h2
    cases r with
    | zero => simp at hr; subst hr; exact h1
    | succ r =>
      have := rds_get k (i + 1) us h3 r u (by simpa using hr)
      rwa [show i + 1 + r = i + (r + 1) by omega] at this
theorem rds_len {h : Hp} {a : Addr} : ∀ (k i : Nat) (vs : List Value), rds W0 h a i k = some vs → vs.length = k
  | 0, i, vs, hv => by simp only [rds, Option.some.injEq] at hv; subst hv; rfl
  | k + 1, i, vs, hv => by
    simp only [rds] at hv
    obtain ⟨v, h1, h2⟩ := Option.bind_eq_some_iff.1 hv
    obtain ⟨us, h3, rfl⟩ := Option.map_eq_some_iff.1 h2
    simp [rds_len k (i + 1) us h3]
/-- A row that is read, as a value. -/
theorem slG_rv {α β : Type} {sz : Nat} {E : α → List Value → Prop} {f : β → List AV} {R : α → β → Prop} {v : Value} {xs : List α} (hs : SlG W0 [] sz E v xs) (hE : ∀ x vs, vs.length = sz → E x vs → ∃ y, R x y ∧ RVs W0 C0 (f y) vs) :
    ∃ nl ys, ys.length = xs.length ∧ (∀ (i : Nat) (x : α) (y : β), xs[i]? = some x → ys[i]? = some y → R x y) ∧ RV W0 C0 (.isl nl ys.length (ys.flatMap f)) v ∧ (nl = true → ys = []) := by
  obtain ⟨a, c, rfl, ha, hr⟩ := hs
  obtain ⟨ps, hl, hp⟩ := choose_list (Q := fun i (p : β × List Value) => ∃ x ad, xs[i]? = some x ∧ R x p.1 ∧ RVs W0 C0 (f p.1) p.2 ∧ a = some ad ∧ rds W0 [] (ad.add (i * sz)) 0 sz = some p.2) xs.length (fun i hi => by
    obtain ⟨ad, vs, h1, h2, h3⟩ := hr i _ (List.getElem?_eq_getElem hi)
    obtain ⟨y, k1, k2⟩ := hE _ vs (rds_len _ _ _ h2) h3
    exact ⟨(y, vs), _, ad, List.getElem?_eq_getElem hi, k1, k2, h1, h2⟩)
  have hrel : RVs W0 C0 (ps.flatMap fun p => f p.1) (ps.flatMap (·.2)) := RVs.flat fun p hm => by
    obtain ⟨i, hi⟩ := List.getElem?_of_mem hm
    obtain ⟨x, ad, _, _, k, _⟩ := hp i p hi
    exact k
  have hfm : ((ps.map (·.1)).flatMap f) = ps.flatMap fun p => f p.1 := by rw [List.flatMap_map]
  refine ⟨a.isNone, ps.map (·.1), by rw [List.length_map, hl], fun i x y hx hy => ?_, ?_, fun hn => ?_⟩
  · rw [List.getElem?_map] at hy
    obtain ⟨p, hpi, rfl⟩ := Option.map_eq_some_iff.1 hy
    obtain ⟨x', ad, k1, k2, _⟩ := hp i p hpi
    rw [hx] at k1; cases k1; exact k2
  · rw [hfm, List.length_map, hl]
    refine .isl ha rfl hrel.1 (fun i u hu => ?_) hrel.2
    cases a with
    | none =>
      have h0 : xs.length = 0 := by rcases ha with ⟨_, h0, _⟩ | ⟨h0, _⟩ | ⟨_, h0, _⟩ <;> first | exact h0 | cases h0
      have : ps = [] := List.eq_nil_of_length_eq_zero (by rw [hl, h0])
      subst this; simp at hu
    | some ad =>
      refine ⟨ad, rfl, ?_⟩
      have hs' : SlG W0 [] sz (fun (p : β × List Value) vs => vs = p.2) (.slice (some ad) xs.length c) ps := by
        refine ⟨some ad, c, by rw [hl], by rw [hl]; exact ha, fun i p hpi => ?_⟩
        obtain ⟨x, ad', _, _, _, k1, k2⟩ := hp i p hpi
        exact ⟨ad', p.2, k1, k2, rfl⟩
      have := hs'.all ps.length (Nat.le_refl _)
      rw [List.take_length] at this
      have := rds_get _ _ _ this i u hu
      rw [Nat.zero_add] at this
      exact rd0_zr this
  · cases a with
    | none =>
      have h0 : xs.length = 0 := by rcases ha with ⟨_, h0, _⟩ | ⟨h0, _⟩ | ⟨_, h0, _⟩ <;> first | exact h0 | cases h0
      have : ps = [] := List.eq_nil_of_length_eq_zero (by rw [hl, h0])
      subst this; rfl
    | some ad => cases hn
theorem flat_one {β : Type} (f : β → AV) (ys : List β) : ys.flatMap (fun y => [f y]) = ys.map f := by induction ys <;> simp_all
/-- A row of unsigned numbers. -/
theorem nats_rv {k : IntKind} {b : Int} {v : Value} {xs : List Int} (hs : SlG W0 [] 1 (EInt k) v xs) (hk : ∀ x, (Lit.int k x).wf = true → 0 ≤ x ∧ x < b) : ∃ (nl : Bool) (ys : List Nat), ys.length = xs.length ∧ (∀ y ∈ ys, (y : Int) < b) ∧ RV W0 C0 (.isl nl ys.length (ys.map (iv k))) v ∧ (nl = true → ys = []) := by
  obtain ⟨nl, ys, h1, h2, h3, h4⟩ := slG_rv (f := fun y => [iv k y]) (R := fun x (y : Nat) => x = (y : Int) ∧ (y : Int) < b) hs (fun x vs hl hE => by
    obtain ⟨rfl, hw⟩ := hE
    obtain ⟨k1, k2⟩ := hk x hw
    exact ⟨x.toNat, ⟨by omega, by omega⟩, by rw [iv_eq, Int.toNat_of_nonneg k1]; exact RVs.cons (.sc rfl) RVs.nil⟩)
  rw [flat_one] at h3
  refine ⟨nl, ys, h1, fun y hy => ?_, h3, h4⟩
  obtain ⟨i, hi⟩ := List.getElem?_of_mem hy
  have hlt := (List.getElem?_eq_some_iff.1 hi).1
  exact (h2 i _ y (List.getElem?_eq_getElem (by omega)) hi).2
/-- A row of signed numbers. -/
theorem ints_rv {k : IntKind} {v : Value} {xs : List Int} (hs : SlG W0 [] 1 (EInt k) v xs) : ∃ nl ys, ys.length = xs.length ∧ (∀ y ∈ ys, (Lit.int k y).wf = true) ∧ RV W0 C0 (.isl nl ys.length (ys.map (ivI k))) v ∧ (nl = true → ys = []) := by
  obtain ⟨nl, ys, h1, h2, h3, h4⟩ := slG_rv (f := fun y => [ivI k y]) (R := fun x (y : Int) => (Lit.int k y).wf = true) hs (fun x vs hl hE => by
    obtain ⟨rfl, hw⟩ := hE
    exact ⟨x, hw, by rw [ivI_eq]; exact RVs.cons (.sc rfl) RVs.nil⟩)
  rw [flat_one] at h3
  refine ⟨nl, ys, h1, fun y hy => ?_, h3, h4⟩
  obtain ⟨i, hi⟩ := List.getElem?_of_mem hy
  have hlt := (List.getElem?_eq_some_iff.1 hi).1
  exact h2 i _ y (List.getElem?_eq_getElem (by omega)) hi
theorem wf_u8 {x : Int} (h : (Lit.int .u8 x).wf = true) : 0 ≤ x ∧ x < 256 := by
  simp only [Lit.wf, Bool.and_eq_true, decide_eq_true_eq] at h
  have h1 : IntKind.u8.min = 0 := by decide
  have h2 : IntKind.u8.max = 256 - 1 := by decide
  omega
theorem wf_u16 {x : Int} (h : (Lit.int .u16 x).wf = true) : 0 ≤ x ∧ x < 65536 := by
  simp only [Lit.wf, Bool.and_eq_true, decide_eq_true_eq] at h
  have h1 : IntKind.u16.min = 0 := by decide
  have h2 : IntKind.u16.max = 65536 - 1 := by decide
  omega
theorem wf_u32 {x : Int} (h : (Lit.int .u32 x).wf = true) : 0 ≤ x ∧ x < 4294967296 := by
  simp only [Lit.wf, Bool.and_eq_true, decide_eq_true_eq] at h
  have h1 : IntKind.u32.min = 0 := by decide
  have h2 : IntKind.u32.max = 4294967296 - 1 := by decide
  omega
theorem wf_u64 {x : Int} (h : (Lit.int .u64 x).wf = true) : 0 ≤ x ∧ x < 18446744073709551616 := by
  simp only [Lit.wf, Bool.and_eq_true, decide_eq_true_eq] at h
  have h1 : IntKind.u64.min = 0 := by decide
  have h2 : IntKind.u64.max = 18446744073709551616 - 1 := by decide
  omega
theorem wf_i64 {x : Int} (h : (Lit.int .i64 x).wf = true) : -9223372036854775808 ≤ x ∧ x < 9223372036854775808 := by
  simp only [Lit.wf, Bool.and_eq_true, decide_eq_true_eq] at h
  have h1 : IntKind.i64.min = -9223372036854775808 := by decide
  have h2 : IntKind.i64.max = 9223372036854775808 - 1 := by decide
  omega
/-- What the machine tells of a law. -/
theorem law_v {d : Nat} {f : FuncId} {as : List AV} {us : List Value} (hG : GOk W0 G) (hc : VC P G d f as (fun _ => none) (fun v _ => v = .sc (.bool true))) (hr : RVs W0 C0 as us) : AC P W0 d f us [] (fun v _ => v = .bool true) := by
  refine AC_mono d f us [] _ _ (fun u h1 hk => ?_) (VC_sound hG d f as _ _ hc C0 [] us VRel.start hr)
  obtain ⟨v, h, C', rfl, _, _, hv⟩ := hk
  exact hv.sc_inv.1
theorem gok_none : GOk W0 (fun _ => .junk) := fun g h => by cases h
end
end Go.Proofs.AbM
