/- The machine of values: small tools behind the walks; equality of flat structs. -/
import Derived.Test.YtbmidddpddiopaaDoorAbV10
import Derived.Laws.StructEq
set_option linter.unusedVariables false
set_option linter.unusedSimpArgs false
namespace Go.Proofs.AbM
open Go.RowKit
theorem hcast {K : AV → VH → Prop} {v : AV} {h h' : VH} (k : K v h) (e : h' = h) : K v h' := e ▸ k
theorem kcast {K : AV → VH → Prop} {v v' : AV} {h h' : VH} (k : K v h) (e1 : v' = v) (e : h' = h) : K v' h' := e1 ▸ e ▸ k
/-- A call that tells a closed value and looks at nothing of the caller's. -/
theorem call_pure {A : FuncId → List AV → VH → (AV → VH → Prop) → Prop} {g : FuncId} {as : List AV} {h : VH} {K : AV → VH → Prop} (hw : A g as (fun _ => none) (fun v _ => clA 4 v = true ∧ K v h)) : vCall A g as h K := .inr ⟨as, rfl, fun i c c' h1 h2 => by rw [h1] at h2; cases h2; exact .refl _, hw⟩
/-- .. that looks at the caller's rows. -/
def Bzs (h : VH) : List AV → List AV → Prop
  | [], [] => True
  | c :: cs, d :: ds => Bz h c d ∧ Bzs h cs ds
  | _, _ => False
theorem Bzs.get {h : VH} : ∀ {cs ds : List AV}, Bzs h cs ds → cs.length = ds.length ∧ ∀ (i : Nat) (c c' : AV), cs[i]? = some c → ds[i]? = some c' → Bz h c c'
  | [], [], _ => ⟨rfl, fun i c c' h1 => by simp at h1⟩
  | c :: cs, d :: ds, hb => by
    obtain ⟨h1, h2⟩ := hb
    obtain ⟨k1, k2⟩ := Bzs.get h2
    refine ⟨by simp [k1], fun i a b e1 e2 => ?_⟩
    cases i with
    | zero => simp at e1 e2; subst e1; subst e2; exact h1
    | succ i => exact k2 i a b (by simpa using e1) (by simpa using e2)
  | [], d :: ds, hb => hb.elim
  | c :: cs, [], hb => hb.elim
theorem call_lend {A : FuncId → List AV → VH → (AV → VH → Prop) → Prop} {g : FuncId} {as : List AV} {h : VH} {K : AV → VH → Prop} (as' : List AV) (hb : Bzs h as as') (hw : A g as' (fun _ => none) (fun v _ => clA 4 v = true ∧ K v h)) : vCall A g as h K := .inr ⟨as', hb.get.1, hb.get.2, hw⟩
theorem Bz.same {h : VH} {j n : Nat} {e : TypeId} {nl : Bool} {cs : List AV} (hj : h j = some (.cells e nl cs)) : Bz h (.own j 0 n) (.isl nl n cs) := .own hj rfl fun i c c' h1 h2 => by rw [h1] at h2; cases h2; exact .refl _
theorem Bz.ptr {h : VH} {j off : Nat} {e : TypeId} {cs : List AV} (hj : h j = some (.cells e false cs)) : Bz h (.op j off) (.ip cs off) := .op hj rfl fun i c c' h1 h2 => by rw [h1] at h2; cases h2; exact .refl _
theorem vopsQ_gf' {P : Program} {G : Nat → AV} {A : FuncId → List AV → VH → (AV → VH → Prop) → Prop} {n : Nat} {ops : Array Oper} {h : VH} {K : VF → Prop} {ρ : VF} {rest : List Oper} {op : Op} {type : TypeId} {pos : String} {after : Array Edge} {j : Nat} {w : Bool} {d' : Nat} (d : Nat) (hd : Nat.ble (d' + 1) n = true) (h1 : dstV ops j = some d) (h2 : Nat.ble (d + 1) n = true) (h3 : ρ d = .sc (.bool (!w))) (hw : vopsQ P G A n ops h rest K (updV ρ d' (.tup []))) : vopsQ P G A n ops h (⟨some d', op, type, pos, after, some (j, w)⟩ :: rest) K ρ :=
  vopsQ_gf d (!w) hd h1 h2 h3 (by cases w <;> decide) hw
/-! ### All rewriting with sides, as one -/
theorem BB :
    (∀ {α : Type} {f : α → AV} {xs : List α} {o : Nat} {v : AV}, o < xs.length → setV (List.map f xs) o [v] = (List.map f xs).set o v) ∧
    (∀ {a b : Nat}, b ≤ a → (a : Int) - (b : Int) = ((a - b : Nat) : Int)) ∧
    (∀ {a n : Nat}, (OfNat.ofNat n : Nat) ≤ a → (a : Int) - (no_index (OfNat.ofNat n)) = ((a - OfNat.ofNat n : Nat) : Int)) ∧
    (∀ {a n : Nat}, a ≤ (OfNat.ofNat n : Nat) → (no_index (OfNat.ofNat n)) - (a : Int) = ((OfNat.ofNat n - a : Nat) : Int)) ∧
    (∀ {x : Int}, -9223372036854775808 ≤ x → x ≤ 9223372036854775807 → IntKind.i64.wrap x = x) ∧
    (∀ {x : Int}, -2147483648 ≤ x → x ≤ 2147483647 → IntKind.i32.wrap x = x) ∧
    (∀ {x : Int}, 0 ≤ x → x ≤ 18446744073709551615 → IntKind.u64.wrap x = x) ∧
    (∀ {x : Int}, 0 ≤ x → x ≤ 4294967295 → IntKind.u32.wrap x = x) ∧
    (∀ {x : Int}, 0 ≤ x → x ≤ 65535 → IntKind.u16.wrap x = x) ∧
    (∀ {x : Int}, 0 ≤ x → x ≤ 255 → IntKind.u8.wrap x = x) ∧
    (∀ (h : VH) {j i : Nat} (b : VB), i ≠ j → hset h j b i = h i) ∧
    (∀ (h : VH) {j i : Nat}, i ≠ j → hdel h j i = h i) ∧
    (∀ {h : VH} {j : Nat} {b : VB}, h j = none → hdel (hset h j b) j = h) ∧
    (∀ {h : VH} {i j : Nat} {b : VB}, i ≠ j → hdel (hset h j b) i = hset (hdel h i) j b) ∧
    (∀ {h : VH} {j i : Nat} {b : VB}, j ≠ i → blkV (hset h i b) j = blkV h j) ∧
    (∀ {h : VH} {j i : Nat}, j ≠ i → blkV (hdel h i) j = blkV h j) ∧
    (∀ {P : Program} {h : VH} {K : AV → Prop} {t : TypeId} {x y : Operand} {k : IntKind} {a b : Int}, b ≠ 0 → (vBin P BinOp.quo t x y (AV.sc (Value.int k a)) (AV.sc (Value.int k b)) h K ↔ K (AV.sc (Value.int k (k.wrap (a.tdiv b)))))) ∧
    (∀ {P : Program} {h : VH} {K : AV → Prop} {t : TypeId} {x y : Operand} {k : IntKind} {a b : Int}, b ≠ 0 → (vBin P BinOp.rem t x y (AV.sc (Value.int k a)) (AV.sc (Value.int k b)) h K ↔ K (AV.sc (Value.int k (a.tmod b))))) ∧
    (∀ {P : Program} {h : VH} {K : AV → Prop} {t : TypeId} {x y : Operand} {k' : IntKind} {a b : Int}, 0 ≤ b → b ≤ 8 → (vBin P BinOp.shr t x y (AV.sc (Value.int IntKind.i8 a)) (AV.sc (Value.int k' b)) h K ↔ K (AV.sc (Value.int IntKind.i8 (a / 2 ^ b.toNat))))) ∧
    (∀ {P : Program} {h : VH} {K : AV → Prop} {t : TypeId} {x y : Operand} {k' : IntKind} {a b : Int}, 0 ≤ b → b ≤ 8 → (vBin P BinOp.shl t x y (AV.sc (Value.int IntKind.i8 a)) (AV.sc (Value.int k' b)) h K ↔ K (AV.sc (Value.int IntKind.i8 (IntKind.i8.wrap (a * 2 ^ b.toNat)))))) ∧
    (∀ {P : Program} {h : VH} {K : AV → Prop} {t : TypeId} {x y : Operand} {k' : IntKind} {a b : Int}, 0 ≤ b → b ≤ 16 → (vBin P BinOp.shr t x y (AV.sc (Value.int IntKind.i16 a)) (AV.sc (Value.int k' b)) h K ↔ K (AV.sc (Value.int IntKind.i16 (a / 2 ^ b.toNat))))) ∧
    (∀ {P : Program} {h : VH} {K : AV → Prop} {t : TypeId} {x y : Operand} {k' : IntKind} {a b : Int}, 0 ≤ b → b ≤ 16 → (vBin P BinOp.shl t x y (AV.sc (Value.int IntKind.i16 a)) (AV.sc (Value.int k' b)) h K ↔ K (AV.sc (Value.int IntKind.i16 (IntKind.i16.wrap (a * 2 ^ b.toNat)))))) ∧
    (∀ {P : Program} {h : VH} {K : AV → Prop} {t : TypeId} {x y : Operand} {k' : IntKind} {a b : Int}, 0 ≤ b → b ≤ 32 → (vBin P BinOp.shr t x y (AV.sc (Value.int IntKind.i32 a)) (AV.sc (Value.int k' b)) h K ↔ K (AV.sc (Value.int IntKind.i32 (a / 2 ^ b.toNat))))) ∧
    (∀ {P : Program} {h : VH} {K : AV → Prop} {t : TypeId} {x y : Operand} {k' : IntKind} {a b : Int}, 0 ≤ b → b ≤ 32 → (vBin P BinOp.shl t x y (AV.sc (Value.int IntKind.i32 a)) (AV.sc (Value.int k' b)) h K ↔ K (AV.sc (Value.int IntKind.i32 (IntKind.i32.wrap (a * 2 ^ b.toNat)))))) ∧
    (∀ {P : Program} {h : VH} {K : AV → Prop} {t : TypeId} {x y : Operand} {k' : IntKind} {a b : Int}, 0 ≤ b → b ≤ 64 → (vBin P BinOp.shr t x y (AV.sc (Value.int IntKind.i64 a)) (AV.sc (Value.int k' b)) h K ↔ K (AV.sc (Value.int IntKind.i64 (a / 2 ^ b.toNat))))) ∧
    (∀ {P : Program} {h : VH} {K : AV → Prop} {t : TypeId} {x y : Operand} {k' : IntKind} {a b : Int}, 0 ≤ b → b ≤ 64 → (vBin P BinOp.shl t x y (AV.sc (Value.int IntKind.i64 a)) (AV.sc (Value.int k' b)) h K ↔ K (AV.sc (Value.int IntKind.i64 (IntKind.i64.wrap (a * 2 ^ b.toNat)))))) ∧
    (∀ {P : Program} {h : VH} {K : AV → Prop} {t : TypeId} {x y : Operand} {k' : IntKind} {a b : Int}, 0 ≤ b → b ≤ 8 → (vBin P BinOp.shr t x y (AV.sc (Value.int IntKind.u8 a)) (AV.sc (Value.int k' b)) h K ↔ K (AV.sc (Value.int IntKind.u8 (a / 2 ^ b.toNat))))) ∧
    (∀ {P : Program} {h : VH} {K : AV → Prop} {t : TypeId} {x y : Operand} {k' : IntKind} {a b : Int}, 0 ≤ b → b ≤ 8 → (vBin P BinOp.shl t x y (AV.sc (Value.int IntKind.u8 a)) (AV.sc (Value.int k' b)) h K ↔ K (AV.sc (Value.int IntKind.u8 (IntKind.u8.wrap (a * 2 ^ b.toNat)))))) ∧
    (∀ {P : Program} {h : VH} {K : AV → Prop} {t : TypeId} {x y : Operand} {k' : IntKind} {a b : Int}, 0 ≤ b → b ≤ 16 → (vBin P BinOp.shr t x y (AV.sc (Value.int IntKind.u16 a)) (AV.sc (Value.int k' b)) h K ↔ K (AV.sc (Value.int IntKind.u16 (a / 2 ^ b.toNat))))) ∧
    (∀ {P : Program} {h : VH} {K : AV → Prop} {t : TypeId} {x y : Operand} {k' : IntKind} {a b : Int}, 0 ≤ b → b ≤ 16 → (vBin P BinOp.shl t x y (AV.sc (Value.int IntKind.u16 a)) (AV.sc (Value.int k' b)) h K ↔ K (AV.sc (Value.int IntKind.u16 (IntKind.u16.wrap (a * 2 ^ b.toNat)))))) ∧
    (∀ {P : Program} {h : VH} {K : AV → Prop} {t : TypeId} {x y : Operand} {k' : IntKind} {a b : Int}, 0 ≤ b → b ≤ 32 → (vBin P BinOp.shr t x y (AV.sc (Value.int IntKind.u32 a)) (AV.sc (Value.int k' b)) h K ↔ K (AV.sc (Value.int IntKind.u32 (a / 2 ^ b.toNat))))) ∧
    (∀ {P : Program} {h : VH} {K : AV → Prop} {t : TypeId} {x y : Operand} {k' : IntKind} {a b : Int}, 0 ≤ b → b ≤ 32 → (vBin P BinOp.shl t x y (AV.sc (Value.int IntKind.u32 a)) (AV.sc (Value.int k' b)) h K ↔ K (AV.sc (Value.int IntKind.u32 (IntKind.u32.wrap (a * 2 ^ b.toNat)))))) ∧
    (∀ {P : Program} {h : VH} {K : AV → Prop} {t : TypeId} {x y : Operand} {k' : IntKind} {a b : Int}, 0 ≤ b → b ≤ 64 → (vBin P BinOp.shr t x y (AV.sc (Value.int IntKind.u64 a)) (AV.sc (Value.int k' b)) h K ↔ K (AV.sc (Value.int IntKind.u64 (a / 2 ^ b.toNat))))) ∧
    (∀ {P : Program} {h : VH} {K : AV → Prop} {t : TypeId} {x y : Operand} {k' : IntKind} {a b : Int}, 0 ≤ b → b ≤ 64 → (vBin P BinOp.shl t x y (AV.sc (Value.int IntKind.u64 a)) (AV.sc (Value.int k' b)) h K ↔ K (AV.sc (Value.int IntKind.u64 (IntKind.u64.wrap (a * 2 ^ b.toNat)))))) :=
  ⟨@setV_map, @c_sub, @c_subn, @c_nsub, @wr64, @wr32, @wru64, @wru32, @wru16, @wru8, hset_ne, hdel_ne, @hdel_hset, @hdel_hset_ne, @blkV_nset, @blkV_ndel, @vBin_quo, @vBin_rem, @vBin_shr_i8, @vBin_shl_i8, @vBin_shr_i16, @vBin_shl_i16, @vBin_shr_i32, @vBin_shl_i32, @vBin_shr_i64, @vBin_shl_i64, @vBin_shr_u8, @vBin_shl_u8, @vBin_shr_u16, @vBin_shl_u16, @vBin_shr_u32, @vBin_shl_u32, @vBin_shr_u64, @vBin_shl_u64⟩
/-! ### Flat structs -/
def scEq : Value → Value → Bool
  | .int _ a, .int _ b => a == b
  | .bool a, .bool b => a == b
  | .string a, .string b => a.toList == b.toList
  | _, _ => false
def eqVs : List Value → List Value → Bool
  | u :: us, w :: ws => scEq u w && eqVs us ws
  | [], [] => true
  | _, _ => false
def fit2 (P : Program) (t : TypeId) (u w : Value) : Bool := isAggO P t == some false && match P.underlying t, u, w with
  | some .bool, .bool _, .bool _ => true
  | some (.int _), .int k _, .int k' _ => decide (k = k')
  | some .string, .string _, .string _ => true
  | _, _, _ => false
def fitFs (P : Program) : List Field → Nat → List Value → List Value → Bool
  | [], _, [], [] => true
  | f :: fs, i, u :: us, w :: ws => decide (f.name ≠ "_") && Nat.beq f.offset i && fit2 P f.type u w && fitFs P fs (i + 1) us ws
  | _, _, _, _ => false
def flatO (P : Program) (t : TypeId) : Option (List Value) := match zeroO P t with
  | some (.agg us) => match fitFs P (P.fieldsOf t).toList 0 us.toList us.toList && !(P.stoodInHeld t) && !(P.eqGuardType P.depth t) with
    | true => some us.toList
    | false => none
  | _ => none
section
variable {P : Program} {t : TypeId}
theorem fit2_eq {u w : Value} (h : fit2 P t u w = true) (d : Nat) (W : World) : (Op.equalIn (d + 1) t u w).run P W = .ok (scEq u w) W ∧ isAggO P t = some false := by
  unfold fit2 at h
  rw [Bool.and_eq_true] at h
  obtain ⟨h1, h⟩ := h
  refine ⟨?_, by simpa using h1⟩
  split at h
  · rename_i hu; exact run_equalIn_bool' W d t _ _ hu
  · rename_i k1 k2 a k3 b hu
    have hk := of_decide_eq_true h
    subst hk
    exact run_equalIn_int W d t _ _ _ _ hu
  · rename_i hu; exact run_equalIn_string W d t _ _ hu
  · cases h
theorem eqFields_flat (W : World) (d : Nat) (xs ys : Array Value) : ∀ (fs : List Field) (i : Nat) (us ws : List Value), us = xs.toList.drop i → ws = ys.toList.drop i → fitFs P fs i us ws = true → (Op.eqFields (d + 1) xs ys fs).run P W = .ok (eqVs us ws) W
  | [], i, us, ws, h1, h2, h => by
    cases us <;> cases ws <;> simp [fitFs] at h
    rfl
  | f :: fs, i, us, ws, h1, h2, h => by
    cases us with
    | nil => simp [fitFs] at h
    | cons u us =>
      cases ws with
      | nil => simp [fitFs] at h
      | cons w ws =>
        simp only [fitFs, Bool.and_eq_true] at h
        obtain ⟨⟨⟨hn, ho⟩, hf⟩, hr⟩ := h
        have hn := of_decide_eq_true hn
        have ho := Nat.eq_of_beq_eq_true ho
        obtain ⟨he, ha⟩ := fit2_eq hf d W
        have hu : xs[i]? = some u := by
          have := congrArg (fun l => l[0]?) h1
          simp only [List.getElem?_cons_zero, List.getElem?_drop, Nat.add_zero] at this
          simpa using this.symm
        have hw : ys[i]? = some w := by
          have := congrArg (fun l => l[0]?) h2
          simp only [List.getElem?_cons_zero, List.getElem?_drop, Nat.add_zero] at this
          simpa using this.symm
        have hus : us = xs.toList.drop (i + 1) := by
          have := congrArg List.tail h1
          simpa [List.tail_drop] using this
        have hws : ws = ys.toList.drop (i + 1) := by
          have := congrArg List.tail h2
          simpa [List.tail_drop] using this
        have p1 : (part f.type xs f.offset).run P W = .ok u W := run_part (by unfold partO; rw [ha, ho]; exact hu)
        have p2 : (part f.type ys f.offset).run P W = .ok w W := run_part (by unfold partO; rw [ha, ho]; exact hw)
        simp only [Op.eqFields, if_pos hn, Sem.run_bind, p1, p2, he, Result.andThen_ok, eqVs]
        cases hq : scEq u w with
        | true =>
          simp only [Bool.not_true, Bool.false_eq_true, if_false, Bool.true_and]
          exact eqFields_flat W d xs ys fs (i + 1) us ws hus hws hr
        | false => simp only [Bool.not_false, if_true, Bool.false_and, Sem.run_pure]
theorem vBin_flat {h : VH} {K : AV → Prop} {x y : Operand} (us ws : List Value) (ht : P.underlying t = some (.struct (P.fieldsOf t))) (hp : P.stoodInHeld t = false) (hm : P.eqGuardType P.depth t = false) (hf : fitFs P (P.fieldsOf t).toList 0 us ws = true) :
    (vBin P .eql t x y (.agg (us.map .sc)) (.agg (ws.map .sc)) h K ↔ K (.sc (.bool (eqVs us ws)))) ∧ (vBin P .neq t x y (.agg (us.map .sc)) (.agg (ws.map .sc)) h K ↔ K (.sc (.bool (!eqVs us ws)))) := by
  have hr : ∀ W : World, (Op.equalIn 10000 t (.agg us.toArray) (.agg ws.toArray)).run P W = .ok (eqVs us ws) W := fun W => by
    rw [run_equalIn_struct W 9999 t _ _ ht hp]
    exact eqFields_flat W 9998 _ _ _ 0 us ws (by simp) (by simp) hf
  have inj : ∀ (as bs : List Value), as.map AV.sc = bs.map AV.sc → as = bs := by
    intro as
    induction as with
    | nil => intro bs hb; cases bs <;> simp_all
    | cons a as ih =>
      intro bs hb
      cases bs with
      | nil => simp at hb
      | cons b bs =>
        rw [List.map_cons, List.map_cons] at hb
        injection hb with h1 h2
        injection h1 with h1
        rw [h1, ih _ h2]
  have key : ∀ (op : BinOp) (b : Bool), (∀ W : World, (do eqGuard op t x y (.agg us.toArray) (.agg ws.toArray); binOp op t (.agg us.toArray) (.agg ws.toArray) : Sem Value).run P W = .ok (.bool b) W) → (vBin P op t x y (.agg (us.map .sc)) (.agg (ws.map .sc)) h K ↔ K (.sc (.bool b))) := by
    intro op b hb
    constructor
    · rintro (⟨u', w', h1, _⟩ | ⟨us', ws', h1, h2, hw⟩ | ⟨q, e, hq, _⟩)
      · cases h1
      · injection h1 with h1
        injection h2 with h2
        have e1 := inj _ _ h1
        have e2 := inj _ _ h2
        subst e1; subst e2
        exact ((wSc_pure hb rfl).1 hw).2
      · simp [isNilV] at hq
    · exact fun hK => .inr (.inl ⟨us, ws, rfl, rfl, (wSc_pure hb rfl).2 ⟨rfl, hK⟩⟩)
  refine ⟨key .eql _ fun W => ?_, key .neq _ fun W => ?_⟩
  · simp only [Sem.run_bind, run_eqGuard_agg W .eql t x y _ _ hm, Result.andThen_ok, run_eql_struct, hr]
  · simp only [Sem.run_bind, run_eqGuard_agg W .neq t x y _ _ hm, Result.andThen_ok, run_neq_struct, hr]
end
end Go.Proofs.AbM
