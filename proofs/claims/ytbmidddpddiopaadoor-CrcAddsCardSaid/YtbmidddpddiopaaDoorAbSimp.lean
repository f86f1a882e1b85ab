/- The abstract machine: rules by which a proof steps through code, and rewriting of what single operations ask. -/
import Derived.Test.YtbmidddpddiopaaDoorAbRun
set_option linter.unusedVariables false
set_option linter.unusedSimpArgs false
namespace Go.Proofs.AbM
open Go.RowKit

section
variable {P : Program} {W0 : World} {A : FuncId → List Value → Hp → (Value → Hp → Prop) → Prop} {n : Nat} {Q : Exit → Fr → Hp → Prop} {ρ : Fr} {h : Hp}
theorem AC_intro {d : Nat} {f : FuncId} {args : List Value} {K : Value → Hp → Prop} {fn : Func} {c : Code} (hf : P.funcs[f]? = some fn) (hb : fn.body = some c) (hn : (fn.name == "runtime.NumGoroutine") = false) (hl : args.length ≤ fn.ntmps)
    (hw : awp P W0 (AC P W0 d) fn.ntmps c (bodyQ P W0 fn K) (initF args) h) : AC P W0 (d + 1) f args h K := .inr ⟨fn, c, hf, hb, hn, hl, hw⟩
/-- One behind the other; what follows stays under one name. -/
theorem awp_seq {a b : Code} (hw : ∀ K : Fr → Hp → Prop, (∀ ρ h, awp P W0 A n b Q ρ h → K ρ h) → awp P W0 A n a (thenA K Q) ρ h) : awp P W0 A n (.seq a b) Q ρ h := hw _ fun _ _ h => h
theorem awp_region {id : Nat} {ops : Array Oper} (hw : wops P W0 A n ops ops.toList (Q .normal) ρ h) : awp P W0 A n (.region id ops false) Q ρ h := hw
theorem awp_cond {c : Operand} {x y : Code} (hw : okO W0.heap.size c ∧ ∃ t, evo ρ c = .bool t ∧ (t = true → awp P W0 A n x Q ρ h) ∧ (t = false → awp P W0 A n y Q ρ h)) : awp P W0 A n (.cond c x y) Q ρ h := hw
theorem awp_cond_t {t : Nat} {x y : Code} {b : Bool} (hb : ρ t = .bool b) (h1 : b = true → awp P W0 A n x Q ρ h) (h2 : b = false → awp P W0 A n y Q ρ h) : awp P W0 A n (.cond (.tmp t) x y) Q ρ h := ⟨trivial, b, hb, h1, h2⟩
theorem awp_block {id : Nat} {c : Code} (hw : awp P W0 A n c (inBlockA id Q) ρ h) : awp P W0 A n (.block id c) Q ρ h := hw
theorem awp_loop {c : Code} (I : Nat → Fr → Hp → Prop) {k : Nat} (h0 : I k ρ h) (hr : ∀ k ρ h, I k ρ h → awp P W0 A n c (thenA (fun ρ' h' => ∃ k', k' < k ∧ I k' ρ' h') Q) ρ h) : awp P W0 A n (.loop c) Q ρ h := ⟨I, k, h0, hr⟩
theorem awp_exit {id : Nat} (hw : Q (.exit id) ρ h) : awp P W0 A n (.exit id) Q ρ h := hw
theorem awp_ret (hw : Q .ret ρ h) : awp P W0 A n .ret Q ρ h := hw
theorem awp_skip (hw : Q .normal ρ h) : awp P W0 A n .skip Q ρ h := hw
end

/-! ### Code, unfolded -/
section
variable {P : Program} {W0 : World} {A : FuncId → List Value → Hp → (Value → Hp → Prop) → Prop} {n : Nat} {Q : Exit → Fr → Hp → Prop} {ρ : Fr} {h : Hp}
theorem awp_skip_eq : awp P W0 A n .skip Q ρ h = Q .normal ρ h := propext Iff.rfl
theorem awp_seq_eq (a b : Code) : awp P W0 A n (.seq a b) Q ρ h = awp P W0 A n a (thenA (awp P W0 A n b Q) Q) ρ h := propext Iff.rfl
theorem awp_region_eq (id : Nat) (ops : Array Oper) : awp P W0 A n (.region id ops false) Q ρ h = wops P W0 A n ops ops.toList (Q .normal) ρ h := propext Iff.rfl
theorem awp_cond_eq (c : Operand) (x y : Code) : awp P W0 A n (.cond c x y) Q ρ h = (okO W0.heap.size c ∧ ∃ t, evo ρ c = .bool t ∧ (t = true → awp P W0 A n x Q ρ h) ∧ (t = false → awp P W0 A n y Q ρ h)) := propext Iff.rfl
theorem awp_block_eq (id : Nat) (c : Code) : awp P W0 A n (.block id c) Q ρ h = awp P W0 A n c (inBlockA id Q) ρ h := propext Iff.rfl
theorem awp_exit_eq (id : Nat) : awp P W0 A n (.exit id) Q ρ h = Q (.exit id) ρ h := propext Iff.rfl
theorem awp_ret_eq : awp P W0 A n .ret Q ρ h = Q .ret ρ h := propext Iff.rfl
theorem thenA_normal (K : Fr → Hp → Prop) : thenA K Q .normal ρ h = K ρ h := propext Iff.rfl
theorem thenA_ret (K : Fr → Hp → Prop) : thenA K Q .ret ρ h = Q .ret ρ h := propext Iff.rfl
theorem thenA_exit (K : Fr → Hp → Prop) (id : Nat) : thenA K Q (.exit id) ρ h = Q (.exit id) ρ h := propext Iff.rfl
theorem inBlockA_normal (id : Nat) : inBlockA id Q .normal ρ h = Q .normal ρ h := propext Iff.rfl
theorem inBlockA_ret (id : Nat) : inBlockA id Q .ret ρ h = Q .ret ρ h := propext Iff.rfl
theorem inBlockA_exit (id id' : Nat) : inBlockA id Q (.exit id') ρ h = if id' = id then Q .normal ρ h else Q (.exit id') ρ h := propext Iff.rfl
theorem bodyQ_ret (fn : Func) (K : Value → Hp → Prop) : bodyQ P W0 fn K .ret ρ h = ∃ vs, resO P W0 fn.results.toList ρ h vs ∧ K (oneOf vs) h := propext Iff.rfl
theorem bodyQ_normal (fn : Func) (K : Value → Hp → Prop) : bodyQ P W0 fn K .normal ρ h = ∃ vs, resO P W0 fn.results.toList ρ h vs ∧ K (oneOf vs) h := propext Iff.rfl
theorem res_one (t : Nat) (K : Value → Prop) : (∃ vs, resO P W0 [.tmp t] ρ h vs ∧ K (oneOf vs)) = K (ρ t) := by
  apply propext
  constructor
  · rintro ⟨vs, hr, hK⟩
    match vs, hr with
    | [v], hr => obtain ⟨rfl, _⟩ := hr; exact hK
    | [], hr => exact hr.elim
    | _ :: _ :: _, hr => exact hr.2.elim
  · exact fun hK => ⟨[ρ t], ⟨rfl, trivial⟩, hK⟩
theorem res_two (t u : Nat) (K : Value → Prop) : (∃ vs, resO P W0 [.tmp t, .tmp u] ρ h vs ∧ K (oneOf vs)) = K (.tuple #[ρ t, ρ u]) := by
  apply propext
  constructor
  · rintro ⟨vs, hr, hK⟩
    match vs, hr with
    | [v, w], hr => obtain ⟨rfl, rfl, _⟩ := hr; exact hK
    | [], hr => exact hr.elim
    | [_], hr => exact hr.2.elim
    | _ :: _ :: _ :: _, hr => exact hr.2.2.elim
  · exact fun hK => ⟨[ρ t, ρ u], ⟨rfl, rfl, trivial⟩, hK⟩
theorem res_three (t u s : Nat) (K : Value → Prop) : (∃ vs, resO P W0 [.tmp t, .tmp u, .tmp s] ρ h vs ∧ K (oneOf vs)) = K (.tuple #[ρ t, ρ u, ρ s]) := by
  apply propext
  constructor
  · rintro ⟨vs, hr, hK⟩
    match vs, hr with
    | [v, w, x], hr => obtain ⟨rfl, rfl, rfl, _⟩ := hr; exact hK
    | [], hr => exact hr.elim
    | [_], hr => exact hr.2.elim
    | [_, _], hr => exact hr.2.2.elim
    | _ :: _ :: _ :: _ :: _, hr => exact hr.2.2.2.elim
  · exact fun hK => ⟨[ρ t, ρ u, ρ s], ⟨rfl, rfl, rfl, trivial⟩, hK⟩
theorem res_none (K : Value → Prop) : (∃ vs, resO P W0 [] ρ h vs ∧ K (oneOf vs)) = K (.tuple #[]) := by
  apply propext
  constructor
  · rintro ⟨vs, hr, hK⟩
    match vs, hr with
    | [], hr => exact hK
    | _ :: _, hr => exact hr.elim
  · exact fun hK => ⟨[], trivial, hK⟩
theorem fm_nil {α : Type} (p : α → Prop) : (∀ x ∈ ([] : List α), p x) = True := eq_true fun x hx => by simp at hx
theorem fm_cons {α : Type} (p : α → Prop) (a : α) (l : List α) : (∀ x ∈ a :: l, p x) = (p a ∧ ∀ x ∈ l, p x) := by simp
end

/-! ### What stands in a slot -/
theorem upd_at (ρ : Fr) (d : Nat) (v : Value) (j : Nat) : upd ρ d v j = if j = d then v else ρ j := Eq.trans rfl rfl
theorem put_some (ρ : Fr) (d : Nat) (v : Value) : put ρ (some d) v = upd ρ d v := Eq.trans rfl rfl
theorem put_none (ρ : Fr) (v : Value) : put ρ none v = ρ := Eq.trans rfl rfl
theorem dstOk_some (n d : Nat) : dstOk n (some d) = (d < n) := propext Iff.rfl
theorem dstOk_none (n : Nat) : dstOk n none = True := propext Iff.rfl
theorem evo_tmp (ρ : Fr) (t : Nat) : evo ρ (.tmp t) = ρ t := Eq.trans rfl rfl
theorem evo_const (ρ : Fr) (v : Value) : evo ρ (.const v) = v := Eq.trans rfl rfl
theorem evo_func (ρ : Fr) (f : Nat) : evo ρ (.func f) = .func (.func f) #[] #[] := Eq.trans rfl rfl
theorem evo_global (ρ : Fr) (g : Nat) : evo ρ (.global g) = .pointer (some ⟨g, 0, none⟩) := Eq.trans rfl rfl
theorem okO_tmp (B t : Nat) : okO B (.tmp t) = True := propext Iff.rfl
theorem okO_func (B f : Nat) : okO B (.func f) = True := propext Iff.rfl
theorem okO_global (B g : Nat) : okO B (.global g) = (g < B) := propext Iff.rfl
theorem okO_const (B : Nat) (v : Value) : okO B (.const v) = (clo 4 v = true) := propext Iff.rfl
theorem okOs_nil (B : Nat) : okOs B [] = True := eq_true fun x hx => by simp at hx
theorem okOs_cons (B : Nat) (x : Operand) (xs : List Operand) : okOs B (x :: xs) = (okO B x ∧ okOs B xs) := by simp [okOs]
theorem clo_int (n : Nat) (k : IntKind) (x : Int) : clo (n + 1) (.int k x) = true := rfl
theorem clo2_int (k : IntKind) (x : Int) : clo 2 (.int k x) = true := rfl
theorem clo3_int (k : IntKind) (x : Int) : clo 3 (.int k x) = true := rfl
theorem clo4_int (k : IntKind) (x : Int) : clo 4 (.int k x) = true := rfl
theorem clo2_bool (b : Bool) : clo 2 (.bool b) = true := rfl
theorem clo3_bool (b : Bool) : clo 3 (.bool b) = true := rfl
theorem clo4_bool (b : Bool) : clo 4 (.bool b) = true := rfl
theorem clo3_string (s : ByteArray) : clo 3 (.string s) = true := rfl
theorem clo4_string (s : ByteArray) : clo 4 (.string s) = true := rfl
theorem clo4_snil (n c : Nat) : clo 4 (.slice none n c) = true := rfl
theorem clo4_pnil : clo 4 (.pointer none) = true := rfl
theorem clo3_snil (n c : Nat) : clo 3 (.slice none n c) = true := rfl
theorem clo3_pnil : clo 3 (.pointer none) = true := rfl

/-! ### Operations that look at no memory -/
section
variable {P : Program} {K : Value → Prop}
theorem wSc_pure {s : Sem Value} {v : Value} (hs : ∀ W : World, s.run P W = .ok v W) (hc : clo 3 v = true) : wSc P s K ↔ K v := by
  constructor
  · rintro ⟨u, _, hr, hK⟩
    have := (hr default).symm.trans (hs default)
    cases this
    exact hK
  · exact fun hK => ⟨v, hc, hs, hK⟩
variable {t : TypeId} {x y : Operand} {k k' : IntKind} {a b : Int}
theorem eqGuard_int (op : BinOp) : eqGuard op t x y (.int k a) (.int k' b) = pure () := by cases op <;> rfl
theorem wBin_int {op : BinOp} {v : Value} (hv : binOp op t (.int k a) (.int k' b) = pure v) (hc : clo 3 v = true) : wBin P op t x y (.int k a) (.int k' b) K ↔ K v := by
  have h1 : wSc P (do eqGuard op t x y (.int k a) (.int k' b); binOp op t (.int k a) (.int k' b)) K ↔ K v := by
    refine wSc_pure (fun W => ?_) hc
    rw [eqGuard_int, hv]; rfl
  rw [← h1]
  constructor
  · rintro (⟨_, _, h⟩ | ⟨_, _, _, _, h, _⟩ | ⟨_, _, h, _⟩)
    · exact h
    · cases h
    · cases h
  · exact fun h => .inl ⟨rfl, rfl, h⟩
theorem wBin_add : wBin P .add t x y (.int k a) (.int k b) K ↔ K (.int k (k.wrap (a + b))) := wBin_int (binOp_add t k a b) rfl
theorem wBin_sub : wBin P .sub t x y (.int k a) (.int k b) K ↔ K (.int k (k.wrap (a - b))) := wBin_int (binOp_sub t k a b) rfl
theorem wBin_mul : wBin P .mul t x y (.int k a) (.int k b) K ↔ K (.int k (k.wrap (a * b))) := wBin_int (binOp_mul t k a b) rfl
theorem wBin_quo (hb : b ≠ 0) : wBin P .quo t x y (.int k a) (.int k b) K ↔ K (.int k (k.wrap (a.tdiv b))) := wBin_int (by rw [binOp_quo]; simp [Op.intDiv, hb]) rfl
theorem wBin_rem (hb : b ≠ 0) : wBin P .rem t x y (.int k a) (.int k b) K ↔ K (.int k (a.tmod b)) := wBin_int (by rw [binOp_rem]; simp [Op.intDiv, hb]) rfl
theorem wBin_and : wBin P .and t x y (.int k a) (.int k b) K ↔ K (.int k (bits .and k a b)) := wBin_int (binOp_and t k a b) rfl
theorem wBin_or : wBin P .or t x y (.int k a) (.int k b) K ↔ K (.int k (bits .or k a b)) := wBin_int (binOp_or t k a b) rfl
theorem wBin_xor : wBin P .xor t x y (.int k a) (.int k b) K ↔ K (.int k (bits .xor k a b)) := wBin_int (binOp_xor t k a b) rfl
theorem wBin_andNot : wBin P .andNot t x y (.int k a) (.int k b) K ↔ K (.int k (bits .andNot k a b)) := wBin_int (binOp_andNot t k a b) rfl
theorem wBin_eql : wBin P .eql t x y (.int k a) (.int k b) K ↔ K (.bool (a == b)) := wBin_int (binOp_eql t k a b) rfl
theorem wBin_neq : wBin P .neq t x y (.int k a) (.int k b) K ↔ K (.bool (a != b)) := wBin_int (binOp_neq t k a b) rfl
theorem wBin_lss : wBin P .lss t x y (.int k a) (.int k b) K ↔ K (.bool (decide (a < b))) := wBin_int (binOp_lss t k a b) rfl
theorem wBin_leq : wBin P .leq t x y (.int k a) (.int k b) K ↔ K (.bool (decide (a ≤ b))) := wBin_int (binOp_leq t k a b) rfl
theorem wBin_gtr : wBin P .gtr t x y (.int k a) (.int k b) K ↔ K (.bool (decide (a > b))) := wBin_int (binOp_gtr t k a b) rfl
theorem wBin_geq : wBin P .geq t x y (.int k a) (.int k b) K ↔ K (.bool (decide (a ≥ b))) := wBin_int (binOp_geq t k a b) rfl
theorem wBin_shr (h0 : 0 ≤ b) (h1 : b ≤ k.bits) : wBin P .shr t x y (.int k a) (.int k' b) K ↔ K (.int k (a / 2 ^ b.toNat)) := wBin_int (by rw [binOp_shr]; exact shift_shr k k' a b h0 h1) rfl
theorem wBin_shl (h0 : 0 ≤ b) (h1 : b ≤ k.bits) : wBin P .shl t x y (.int k a) (.int k' b) K ↔ K (.int k (k.wrap (a * 2 ^ b.toNat))) := wBin_int (by rw [binOp_shl]; exact shift_shl k k' a b h0 h1) rfl
theorem wBin_shr_i8 (h0 : 0 ≤ b) (h1 : b ≤ 8) : wBin P .shr t x y (.int .i8 a) (.int k' b) K ↔ K (.int .i8 (a / 2 ^ b.toNat)) := wBin_shr h0 h1
theorem wBin_shl_i8 (h0 : 0 ≤ b) (h1 : b ≤ 8) : wBin P .shl t x y (.int .i8 a) (.int k' b) K ↔ K (.int .i8 (IntKind.i8.wrap (a * 2 ^ b.toNat))) := wBin_shl h0 h1
theorem wBin_shr_i16 (h0 : 0 ≤ b) (h1 : b ≤ 16) : wBin P .shr t x y (.int .i16 a) (.int k' b) K ↔ K (.int .i16 (a / 2 ^ b.toNat)) := wBin_shr h0 h1
theorem wBin_shl_i16 (h0 : 0 ≤ b) (h1 : b ≤ 16) : wBin P .shl t x y (.int .i16 a) (.int k' b) K ↔ K (.int .i16 (IntKind.i16.wrap (a * 2 ^ b.toNat))) := wBin_shl h0 h1
theorem wBin_shr_i32 (h0 : 0 ≤ b) (h1 : b ≤ 32) : wBin P .shr t x y (.int .i32 a) (.int k' b) K ↔ K (.int .i32 (a / 2 ^ b.toNat)) := wBin_shr h0 h1
theorem wBin_shl_i32 (h0 : 0 ≤ b) (h1 : b ≤ 32) : wBin P .shl t x y (.int .i32 a) (.int k' b) K ↔ K (.int .i32 (IntKind.i32.wrap (a * 2 ^ b.toNat))) := wBin_shl h0 h1
theorem wBin_shr_i64 (h0 : 0 ≤ b) (h1 : b ≤ 64) : wBin P .shr t x y (.int .i64 a) (.int k' b) K ↔ K (.int .i64 (a / 2 ^ b.toNat)) := wBin_shr h0 h1
theorem wBin_shl_i64 (h0 : 0 ≤ b) (h1 : b ≤ 64) : wBin P .shl t x y (.int .i64 a) (.int k' b) K ↔ K (.int .i64 (IntKind.i64.wrap (a * 2 ^ b.toNat))) := wBin_shl h0 h1
theorem wBin_shr_u8 (h0 : 0 ≤ b) (h1 : b ≤ 8) : wBin P .shr t x y (.int .u8 a) (.int k' b) K ↔ K (.int .u8 (a / 2 ^ b.toNat)) := wBin_shr h0 h1
theorem wBin_shl_u8 (h0 : 0 ≤ b) (h1 : b ≤ 8) : wBin P .shl t x y (.int .u8 a) (.int k' b) K ↔ K (.int .u8 (IntKind.u8.wrap (a * 2 ^ b.toNat))) := wBin_shl h0 h1
theorem wBin_shr_u16 (h0 : 0 ≤ b) (h1 : b ≤ 16) : wBin P .shr t x y (.int .u16 a) (.int k' b) K ↔ K (.int .u16 (a / 2 ^ b.toNat)) := wBin_shr h0 h1
theorem wBin_shl_u16 (h0 : 0 ≤ b) (h1 : b ≤ 16) : wBin P .shl t x y (.int .u16 a) (.int k' b) K ↔ K (.int .u16 (IntKind.u16.wrap (a * 2 ^ b.toNat))) := wBin_shl h0 h1
theorem wBin_shr_u32 (h0 : 0 ≤ b) (h1 : b ≤ 32) : wBin P .shr t x y (.int .u32 a) (.int k' b) K ↔ K (.int .u32 (a / 2 ^ b.toNat)) := wBin_shr h0 h1
theorem wBin_shl_u32 (h0 : 0 ≤ b) (h1 : b ≤ 32) : wBin P .shl t x y (.int .u32 a) (.int k' b) K ↔ K (.int .u32 (IntKind.u32.wrap (a * 2 ^ b.toNat))) := wBin_shl h0 h1
theorem wBin_shr_u64 (h0 : 0 ≤ b) (h1 : b ≤ 64) : wBin P .shr t x y (.int .u64 a) (.int k' b) K ↔ K (.int .u64 (a / 2 ^ b.toNat)) := wBin_shr h0 h1
theorem wBin_shl_u64 (h0 : 0 ≤ b) (h1 : b ≤ 64) : wBin P .shl t x y (.int .u64 a) (.int k' b) K ↔ K (.int .u64 (IntKind.u64.wrap (a * 2 ^ b.toNat))) := wBin_shl h0 h1
theorem wBin_of {op : BinOp} {va vb v : Value} (ha : clo 3 va = true) (hb : clo 3 vb = true) (hs : ∀ W : World, (do eqGuard op t x y va vb; binOp op t va vb : Sem Value).run P W = .ok v W) (hc : clo 3 v = true) (hK : K v) : wBin P op t x y va vb K := .inl ⟨ha, hb, v, hc, hs, hK⟩
theorem wBin_eqb {p q : Bool} (hu : P.underlying t = some .bool) : wBin P .eql t x y (.bool p) (.bool q) K ↔ K (.bool (p == q)) := by
  have h1 : wSc P (do eqGuard .eql t x y (.bool p) (.bool q); binOp .eql t (.bool p) (.bool q)) K ↔ K (.bool (p == q)) := by
    refine wSc_pure (fun W => ?_) rfl
    simp [eqGuard, binOp, run_equal_bool W t p q hu]
  rw [← h1]
  constructor
  · rintro (⟨_, _, h⟩ | ⟨_, _, _, _, h, _⟩ | ⟨_, _, h, _⟩)
    · exact h
    · cases h
    · cases h
  · exact fun h => .inl ⟨rfl, rfl, h⟩
theorem wBin_neb {p q : Bool} (hu : P.underlying t = some .bool) : wBin P .neq t x y (.bool p) (.bool q) K ↔ K (.bool (!(p == q))) := by
  have h1 : wSc P (do eqGuard .neq t x y (.bool p) (.bool q); binOp .neq t (.bool p) (.bool q)) K ↔ K (.bool (!(p == q))) := by
    refine wSc_pure (fun W => ?_) rfl
    simp [eqGuard, binOp, run_equal_bool W t p q hu]
  rw [← h1]
  constructor
  · rintro (⟨_, _, h⟩ | ⟨_, _, _, _, h, _⟩ | ⟨_, _, h, _⟩)
    · exact h
    · cases h
    · cases h
  · exact fun h => .inl ⟨rfl, rfl, h⟩
theorem wBin_str {op : BinOp} {p q : ByteArray} {v : Value} (hv : Op.stringOp op p q = pure v) (hg : eqGuard op t x y (.string p) (.string q) = pure ()) (hb : binOp op t (.string p) (.string q) = Op.stringOp op p q) (hc : clo 3 v = true) : wBin P op t x y (.string p) (.string q) K ↔ K v := by
  have h1 : wSc P (do eqGuard op t x y (.string p) (.string q); binOp op t (.string p) (.string q)) K ↔ K v := by
    refine wSc_pure (fun W => ?_) hc
    rw [hg, hb, hv]; rfl
  rw [← h1]
  constructor
  · rintro (⟨_, _, h⟩ | ⟨_, _, _, _, h, _⟩ | ⟨_, _, h, _⟩)
    · exact h
    · cases h
    · cases h
  · exact fun h => .inl ⟨rfl, rfl, h⟩
theorem wBin_seq {p q : ByteArray} : wBin P .eql t x y (.string p) (.string q) K ↔ K (.bool (p.toList == q.toList)) := wBin_str rfl rfl rfl rfl
theorem wBin_sne {p q : ByteArray} : wBin P .neq t x y (.string p) (.string q) K ↔ K (.bool (!(p.toList == q.toList))) := wBin_str rfl rfl rfl rfl
theorem wSc_not {p : Bool} : wSc P (Op.unary .not (.bool p)) K ↔ K (.bool (!p)) := wSc_pure (fun W => rfl) rfl
theorem wSc_neg : wSc P (Op.unary .neg (.int k a)) K ↔ K (.int k (k.wrap (0 - a))) := wSc_pure (fun W => rfl) rfl
theorem wSc_com : wSc P (Op.unary .xor (.int k a)) K ↔ K (.int k (bits .xor k (if k.signed then -1 else k.max) a)) := wSc_pure (fun W => rfl) rfl
theorem wSc_min2 {ts : Array TypeId} : wSc P (Builtin.min_ ts t #[.int k a, .int k' b]) K ↔ K (.int k (if b < a then b else a)) := wSc_pure (fun W => rfl) rfl
theorem wSc_max2 {ts : Array TypeId} : wSc P (Builtin.max_ ts t #[.int k a, .int k' b]) K ↔ K (.int k (if b > a then b else a)) := wSc_pure (fun W => rfl) rfl
theorem wConv_int {W0 : World} {src dst : TypeId} {h : Hp} {K : Value → Hp → Prop} {ks kd : IntKind} (hs : P.underlying src = some (.int ks)) (hd : P.underlying dst = some (.int kd)) : wConv P W0 src dst (.int k a) h K ↔ K (.int kd (kd.wrap a)) h := by
  have h1 : wSc P (convert src dst (.int k a)) (fun v => K v h) ↔ K (.int kd (kd.wrap a)) h := by
    refine wSc_pure (fun W => ?_) rfl
    simp [convert, run_under hs, run_under hd, Conv.intToInt]
  rw [← h1]
  constructor
  · rintro (⟨_, h⟩ | ⟨_, _, _, _, _, _, _, _, h, _⟩ | ⟨_, _, _, _, _, _, h, _⟩ | ⟨_, _, _, _, _, _, _, _, _, h, _⟩)
    · exact h
    · cases h
    · cases h
    · cases h
  · exact fun h => .inl ⟨rfl, h⟩
end
end Go.Proofs.AbM
