/- From a law's row to the abstract machine: what an argument that can be read is, as the machine reads it. -/
import Derived.Test.YtbmidddpddiopaaDoorAbLib
import Derived.ChangeShapes
import Derived.WideShapes
import Derived.ChangeOld
import Derived.SizedLaws
import Derived.Carry
import Derived.OpenShut
set_option linter.unusedVariables false
set_option linter.unusedSimpArgs false
namespace Go.Proofs.AbM
open Go.RowKit Go.ChangeShapes Go.WideShapes

/-- Cells as they are read: an empty slice's place is not told. -/
def San (B : Nat) (cs cs' : List Value) : Prop := cs.map (lowB B) = cs'.map some
theorem San.nil (B : Nat) : San B [] [] := rfl
theorem San.append {B : Nat} {a b a' b' : List Value} (h : San B a a') (k : San B b b') : San B (a ++ b) (a' ++ b') := by simp [San] at h k ⊢; rw [h, k]
theorem San.one {B : Nat} {v v' : Value} (h : lowB B v = some v') : San B [v] [v'] := by simp [San, h]
theorem San.rel {B : Nat} {m : List (Nat × Nat)} {cs cs' : List Value} (h : San B cs cs') : VRs B m cs' cs := by
  have hl : cs.length = cs'.length := by have := congrArg List.length h; simpa using this
  refine ⟨hl.symm, fun i v' v h1 h2 => ?_⟩
  have := congrArg (fun l => l[i]?) h
  simp only [List.getElem?_map, h1, h2, Option.map_some, Option.some.injEq] at this
  exact (lowB_rel this).1
theorem San.length {B : Nat} {cs cs' : List Value} (h : San B cs cs') : cs.length = cs'.length := by have := congrArg List.length h; simpa using this

section
variable {H : Type} {enc : TypeId × Value → H} {P : Program} {W0 : World}
/-- A type's values, laid open: cells that read as data of the type are, as the machine reads them, some x's. -/
def Opens {α : Type} (enc : TypeId × Value → H) (P : Program) (W0 : World) (t : TypeId) (E : α → List Value → Prop) : Prop :=
  ∀ (fuel : Nat) (cs : List Value) (d : DataW H) (ps : List MemPlace), DataW.trod enc P W0 0 (fun _ => true) true fuel t cs = some (d, ps) → (d.weights P t).all (· ≤ reachBytes) = true → ∃ x cs', San W0.heap.size cs cs' ∧ E x cs'
def EInt (k : IntKind) (x : Int) (vs : List Value) : Prop := vs = [.int k x] ∧ (Lit.int k x).wf = true
def EBool (b : Bool) (vs : List Value) : Prop := vs = [.bool b]
def EStr (s : ByteArray) (vs : List Value) : Prop := vs = [.string s] ∧ s.size ≤ 140737488351232
/-- A slice that lies in the base world. -/
def ESl {α : Type} (W0 : World) (sz by_ : Nat) (E : α → List Value → Prop) (xs : List α) (vs : List Value) : Prop := ∃ v, vs = [v] ∧ (∀ h, SlG W0 h sz E v xs) ∧ xs.length * by_ ≤ 140737488351232
def ECons {α β : Type} (E : α → List Value → Prop) (F : β → List Value → Prop) (x : α × β) (vs : List Value) : Prop := ∃ us ws, vs = us ++ ws ∧ E x.1 us ∧ F x.2 ws
def ENil (_ : Unit) (vs : List Value) : Prop := vs = []
theorem opens_int {t : TypeId} {k : IntKind} (hu : P.underlying t = some (.int k)) : Opens enc P W0 t (EInt k) := by
  intro fuel cs d ps h _
  cases fuel with
  | zero => simp [DataW.trod] at h
  | succ fuel =>
    simp only [DataW.trod, hu] at h
    split at h <;> try (simp at h; done)
    all_goals (rename_i he; try cases he)
    split at h
    · rename_i hk
      obtain ⟨rfl, hw⟩ := hk
      exact ⟨_, _, San.one rfl, rfl, hw⟩
    · cases h
theorem opens_bool {t : TypeId} (hu : P.underlying t = some .bool) : Opens enc P W0 t EBool := by
  intro fuel cs d ps h _
  cases fuel with
  | zero => simp [DataW.trod] at h
  | succ fuel =>
    simp only [DataW.trod, hu] at h
    split at h <;> try (simp at h; done)
    all_goals (rename_i he; try cases he)
    exact ⟨_, _, San.one rfl, rfl⟩
theorem opens_str {t : TypeId} (hu : P.underlying t = some .string) : Opens enc P W0 t EStr := by
  intro fuel cs d ps h hw
  cases fuel with
  | zero => simp [DataW.trod] at h
  | succ fuel =>
    simp only [DataW.trod, hu] at h
    split at h <;> try (simp at h; done)
    all_goals (rename_i he; try cases he)
    split at h
    · rename_i s hk
      simp only [Option.some.injEq, Prod.mk.injEq] at h
      obtain ⟨rfl, _⟩ := h
      simp [DataW.weights, reachBytes] at hw
      exact ⟨s, _, San.one rfl, rfl, of_decide_eq_true hw⟩
    · cases h
theorem mapM_get {α β : Type} {f : α → Option β} : ∀ {l : List α} {ys : List β}, l.mapM f = some ys → ys.length = l.length ∧ ∀ (i : Nat) (x : α), l[i]? = some x → ∃ y, ys[i]? = some y ∧ f x = some y
  | [], ys, h => by
    simp at h
    subst h
    exact ⟨rfl, fun i x hx => by simp at hx⟩
  | a :: l, ys, h => by
    rw [List.mapM_cons] at h
    cases ha : f a with
    | none => rw [ha] at h; simp at h
    | some b =>
      cases hl : l.mapM f with
      | none => rw [ha, hl] at h; simp at h
      | some bs =>
        rw [ha, hl] at h
        simp at h
        subst h
        obtain ⟨h1, h2⟩ := mapM_get hl
        refine ⟨by simp [h1], fun i x hx => ?_⟩
        cases i with
        | zero => simp at hx; subst hx; exact ⟨b, rfl, ha⟩
        | succ i => simp at hx; obtain ⟨y, e1, e2⟩ := h2 i x hx; exact ⟨y, by simpa using e1, e2⟩
theorem choose_list {α : Type} {Q : Nat → α → Prop} : ∀ n, (∀ i, i < n → ∃ x, Q i x) → ∃ xs : List α, xs.length = n ∧ ∀ (i : Nat) (x : α), xs[i]? = some x → Q i x
  | 0, _ => ⟨[], rfl, fun i x hx => by simp at hx⟩
  | n + 1, h => by
    obtain ⟨xs, hl, hx⟩ := choose_list n (fun i hi => h i (by omega))
    obtain ⟨y, hy⟩ := h n (by omega)
    refine ⟨xs ++ [y], by simp [hl], fun i x hi => ?_⟩
    rw [getElem?_snoc] at hi
    split at hi
    · exact hx i x hi
    · split at hi
      · rename_i he
        cases hi
        rw [he, hl]; exact hy
      · cases hi
theorem rds_of_cells {h : Hp} {a : Addr} : ∀ (vs vs' : List Value) (i : Nat), (∀ (j : Nat) (v : Value), vs[j]? = some v → W0.cell? (a.add (i + j)) = some v) → San W0.heap.size vs vs' → rds W0 h a i vs.length = some vs'
  | [], vs', i, _, hs => by
    have : vs' = [] := List.eq_nil_of_length_eq_zero hs.length.symm
    subst this; rfl
  | v :: vs, vs', i, hc, hs => by
    cases vs' with
    | nil => have := hs.length; simp at this
    | cons v' vs' =>
      simp only [San, List.map_cons, List.cons.injEq] at hs
      have h0 := hc 0 v rfl
      rw [Nat.add_zero] at h0
      have hlt := World.block_lt_of_cell? W0 _ h0
      have hrd : rd W0 h (a.add i) = some v' := by
        unfold rd
        rw [if_pos hlt, h0]; exact hs.1
      have ih := rds_of_cells (h := h) (a := a) vs vs' (i + 1) (fun j u hu => by
        have := hc (j + 1) u (by simpa using hu)
        rwa [show i + (j + 1) = i + 1 + j by omega] at this) hs.2
      simp only [List.length_cons, rds, hrd, Option.bind_some, ih, Option.map_some]
theorem cells_get {b n : Nat} {a : Addr} {vs : List Value} (h : W0.cells? b a n = some vs) : vs.length = n ∧ ∀ (j : Nat) (v : Value), vs[j]? = some v → W0.cell? (a.add j) = some v := by
  unfold World.cells? at h
  split at h
  · obtain ⟨h1, h2⟩ := mapM_get h
    simp only [List.length_range] at h1
    refine ⟨h1, fun j v hv => ?_⟩
    have hj := (List.getElem?_eq_some_iff.1 hv).1
    obtain ⟨y, e1, e2⟩ := h2 j j (by rw [List.getElem?_range (by omega)])
    rw [hv] at e1; cases e1
    exact e2
  · cases h
theorem weightsAll_get {e : TypeId} : ∀ {ds : List (DataW H)}, (DataW.weightsAll P e ds).all (· ≤ reachBytes) = true → ∀ d ∈ ds, (d.weights P e).all (· ≤ reachBytes) = true
  | [], _, d, hd => by simp at hd
  | x :: xs, h, d, hd => by
    simp only [DataW.weightsAll, List.all_append, Bool.and_eq_true] at h
    rcases List.mem_cons.1 hd with rfl | hd
    · exact h.1
    · exact weightsAll_get h.2 d hd
theorem opens_slice {α : Type} {t e : TypeId} {sz by_ : Nat} {E : α → List Value → Prop} (hu : P.underlying t = some (.slice e)) (hc : P.cellsOf e = sz) (hs : 0 < sz) (hb : P.bytesOf e = by_) (hE : Opens enc P W0 e E) : Opens enc P W0 t (ESl W0 sz by_ E) := by
  intro fuel cs d ps h hw
  cases fuel with
  | zero => simp [DataW.trod] at h
  | succ fuel =>
    simp only [DataW.trod, hu] at h
    split at h <;> try (simp at h; done)
    all_goals (rename_i he; try cases he)
    · exact ⟨[], _, San.one rfl, _, rfl, fun h => SlG.nil _ _, by simp⟩
    · rename_i a len cap
      split at h
      · rename_i hcond
        obtain ⟨_, hlc, _⟩ := hcond
        obtain ⟨elems, h1, h2⟩ := Option.bind_eq_some_iff.1 h
        obtain ⟨rest, h3, h4⟩ := Option.map_eq_some_iff.1 h2
        simp only [Prod.mk.injEq] at h4
        obtain ⟨rfl, _⟩ := h4
        simp only [DataW.weights, hu, List.all_cons, List.all_append, Bool.and_eq_true] at hw
        obtain ⟨hw1, hw2, _⟩ := hw
        have hw1' := of_decide_eq_true hw1
        simp only [List.length_map, reachBytes] at hw1'
        obtain ⟨hel, hget⟩ := mapM_get h1
        simp only [List.length_range] at hel
        have hall : ∀ i, i < len → ∃ x, ∃ vs vs', W0.cells? 0 (a.add (i * P.cellsOf e)) (P.cellsOf e) = some vs ∧ San W0.heap.size vs vs' ∧ E x vs' := by
          intro i hi
          obtain ⟨y, hy, hf⟩ := hget i i (by rw [List.getElem?_range hi])
          obtain ⟨vs, e1, e2⟩ := Option.bind_eq_some_iff.1 hf
          obtain ⟨x, vs', e3, e4⟩ := hE fuel vs y.1 y.2 e2 (weightsAll_get hw2 y.1 (List.mem_map.2 ⟨y, List.mem_of_getElem? hy, rfl⟩))
          exact ⟨x, vs, vs', e1, e3, e4⟩
        obtain ⟨xs, hxl, hxs⟩ := choose_list len hall
        have hbytes : xs.length * by_ ≤ 140737488351232 := by
          rw [hb] at hw1'
          refine Nat.le_trans (Nat.mul_le_mul_right _ ?_) hw1'
          rw [hxl, ← hel]; omega
        rw [hc] at hxs
        by_cases h0 : len = 0
        · subst h0
          have hx0 := List.eq_nil_of_length_eq_zero hxl
          subst hx0
          exact ⟨[], _, San.one rfl, _, rfl, fun h => ⟨_, _, rfl, .inr (.inl ⟨rfl, rfl, rfl⟩), fun i x hx => by simp at hx⟩, by simp⟩
        · obtain ⟨vs, vs', e1, _, _⟩ := hxs 0 xs[0] (List.getElem?_eq_getElem (by omega))
          obtain ⟨hvl, hvc⟩ := cells_get e1
          have hc0 := hvc 0 vs[0] (List.getElem?_eq_getElem (by omega))
          rw [add_add', Nat.zero_mul, Nat.zero_add, show a.add 0 = a by unfold Addr.add; rfl] at hc0
          have hlt := World.block_lt_of_cell? W0 _ hc0
          have hsp : a.spot = none := by
            cases hq : a.spot with
            | none => rfl
            | some s => simp [World.cell?, hq] at hc0; split at hc0 <;> simp at hc0
          refine ⟨xs, [.slice (some a) len cap], San.one ?_, _, rfl, fun h => ?_, hbytes⟩
          · unfold lowB
            split
            · rename_i he2; cases he2; exact absurd rfl h0
            · simp [lowA, hlt]
          · refine ⟨some a, cap, by rw [hxl], .inr (.inr ⟨a, rfl, hsp, by omega, .inl hlt⟩), fun i x hx => ?_⟩
            obtain ⟨us, us', f1, f2, f3⟩ := hxs i x hx
            obtain ⟨hul, huc⟩ := cells_get f1
            refine ⟨a, us', rfl, ?_, f3⟩
            have := rds_of_cells (h := h) (a := a.add (i * sz)) us us' 0 (fun j v hv => by rw [Nat.zero_add]; exact huc j v hv) f2
            rwa [hul] at this
      · cases h
/-- The fields of a struct from the off-th cell on, of T cells. -/
def OpensFs {α : Type} (enc : TypeId × Value → H) (P : Program) (W0 : World) (T : Nat) (fs : List Field) (off : Nat) (E : α → List Value → Prop) : Prop :=
  ∀ (fuel : Nat) (cs : List Value) (ys : List (DataW H × List MemPlace)), cs.length = T → (fs.mapM fun f => DataW.trod enc P W0 0 (fun _ => true) true fuel f.type ((cs.drop f.offset).take (P.cellsOf f.type))) = some ys →
    (DataW.weightsEach P (fs.map (·.type)) (ys.map (·.1))).all (· ≤ reachBytes) = true → ∃ x cs', San W0.heap.size (cs.drop off) cs' ∧ E x cs'
theorem opens_fs_nil {T : Nat} : OpensFs enc P W0 T [] T ENil := by
  intro fuel cs ys hl _ _
  exact ⟨(), [], by rw [List.drop_eq_nil_of_le (by omega)]; rfl, rfl⟩
theorem opens_fs_cons {α β : Type} {E : α → List Value → Prop} {F : β → List Value → Prop} {T off sz : Nat} {f : Field} {fs : List Field} (ho : f.offset = off) (hc : P.cellsOf f.type = sz) (hE : Opens enc P W0 f.type E) (hF : OpensFs enc P W0 T fs (off + sz) F) : OpensFs enc P W0 T (f :: fs) off (ECons E F) := by
  intro fuel cs ys hl hm hw
  rw [List.mapM_cons] at hm
  cases h1 : DataW.trod enc P W0 0 (fun _ => true) true fuel f.type ((cs.drop f.offset).take (P.cellsOf f.type)) with
  | none => rw [h1] at hm; simp at hm
  | some y =>
    cases h2 : (fs.mapM fun f => DataW.trod enc P W0 0 (fun _ => true) true fuel f.type ((cs.drop f.offset).take (P.cellsOf f.type))) with
    | none => rw [h1, h2] at hm; simp at hm
    | some zs =>
      rw [h1, h2] at hm
      simp at hm
      subst hm
      simp only [List.map_cons, DataW.weightsEach, List.all_append, Bool.and_eq_true] at hw
      obtain ⟨x, us, e1, e2⟩ := hE fuel _ y.1 y.2 h1 hw.1
      obtain ⟨z, ws, e3, e4⟩ := hF fuel cs zs hl h2 hw.2
      refine ⟨(x, z), us ++ ws, ?_, us, ws, rfl, e2, e4⟩
      have : cs.drop off = (cs.drop off).take sz ++ cs.drop (off + sz) := by rw [← List.drop_drop, List.take_append_drop]
      rw [this]
      rw [ho, hc] at e1
      exact e1.append e3
theorem opens_struct {α : Type} {t : TypeId} {fs : Array Field} {T : Nat} {E : α → List Value → Prop} (hu : P.underlying t = some (.struct fs)) (hc : P.cellsOf t = T) (hF : OpensFs enc P W0 T fs.toList 0 E) : Opens enc P W0 t E := by
  intro fuel cs d ps h hw
  cases fuel with
  | zero => simp [DataW.trod] at h
  | succ fuel =>
    simp only [DataW.trod, hu] at h
    split at h
    · rename_i hl
      obtain ⟨ys, h1, h2⟩ := Option.map_eq_some_iff.1 h
      simp only [Prod.mk.injEq] at h2
      obtain ⟨rfl, _⟩ := h2
      simp only [DataW.weights, hu] at hw
      obtain ⟨x, cs', e1, e2⟩ := hF fuel cs ys (by rw [hl, hc]) h1 hw
      exact ⟨x, cs', by simpa using e1, e2⟩
    · cases h
/-- A list of arguments. -/
def OpensA {α : Type} (enc : TypeId × Value → H) (P : Program) (W0 : World) (ts : List TypeId) (E : α → List Value → Prop) : Prop :=
  ∀ (base : Nat) (vs : List Value) (ds : List (DataW H)) (ps : List MemPlace), DataW.TrodAll enc P W0 0 (fun _ => true) true ts vs ds ps → (DataW.weightsEach P ts ds).all (· ≤ reachBytes) = true →
    (∀ (j : Nat) t v, ts[j]? = some t → vs[j]? = some v → Value.okWide P W0 .any base t v) → ∃ x ws, VRs W0.heap.size [] ws vs ∧ E x ws
def EArg {α β : Type} (E : α → List Value → Prop) (F : β → List Value → Prop) (x : α × β) (vs : List Value) : Prop := ∃ w ws, vs = w :: ws ∧ E x.1 [w] ∧ F x.2 ws
def EAgg {α β : Type} (E : α → List Value → Prop) (F : β → List Value → Prop) (x : α × β) (vs : List Value) : Prop := ∃ cs ws, vs = .agg cs.toArray :: ws ∧ E x.1 cs ∧ F x.2 ws
theorem opensA_nil : OpensA enc P W0 [] ENil := by
  intro base vs ds ps h _ _
  obtain ⟨rfl, _, _⟩ := trodAll_nil h
  exact ⟨(), [], VRs.nil, rfl⟩
def plainT (P : Program) (t : TypeId) : Bool := match P.underlying t with | some (.struct _) | some (.array _ _) => false | _ => true
theorem opensA_one {α β : Type} {E : α → List Value → Prop} {F : β → List Value → Prop} {t : TypeId} {ts : List TypeId} (hp : plainT P t = true) (hE : Opens enc P W0 t E) (hF : OpensA enc P W0 ts F) : OpensA enc P W0 (t :: ts) (EArg E F) := by
  intro base vs ds ps h hw hk
  obtain ⟨v, vs, d, ds, p, q, rfl, rfl, rfl, ⟨fuel, h1⟩, h2⟩ := trodAll_cons h
  simp only [DataW.weightsEach, List.all_append, Bool.and_eq_true] at hw
  obtain ⟨x, cs', e1, e2⟩ := hE fuel _ d p h1 hw.1
  obtain ⟨z, ws, e3, e4⟩ := hF base vs ds q h2 hw.2 (fun j t v h1 h2 => hk (j + 1) t v (by simpa using h1) (by simpa using h2))
  have hv : v.cells = #[v] := by
    have := hk 0 t v rfl rfl
    unfold plainT at hp
    unfold Value.okWide at this
    cases hq : P.underlying t with
    | none => rw [hq] at this; simp only [Cell.okWide, Cell.ok, hq] at this <;> (cases v <;> first | rfl | simp_all)
    | some dd =>
      rw [hq] at this hp
      cases dd <;> simp at hp <;> simp only [Cell.okWide, Cell.ok, hq] at this <;> (cases v <;> first | rfl | simp_all)
  rw [hv] at e1
  have hl := e1.length
  simp at hl
  match cs', hl with
  | [w], _ => exact ⟨(x, z), w :: ws, VRs.cons (e1.rel.2 0 w v rfl rfl) e3, w, ws, rfl, e2, e4⟩
theorem opensA_agg {α β : Type} {E : α → List Value → Prop} {F : β → List Value → Prop} {t : TypeId} {ts : List TypeId} {fs : Array Field} (hu : P.underlying t = some (.struct fs)) (hE : Opens enc P W0 t E) (hF : OpensA enc P W0 ts F) : OpensA enc P W0 (t :: ts) (EAgg E F) := by
  intro base vs ds ps h hw hk
  obtain ⟨v, vs, d, ds, p, q, rfl, rfl, rfl, ⟨fuel, h1⟩, h2⟩ := trodAll_cons h
  simp only [DataW.weightsEach, List.all_append, Bool.and_eq_true] at hw
  obtain ⟨x, cs', e1, e2⟩ := hE fuel _ d p h1 hw.1
  obtain ⟨z, ws, e3, e4⟩ := hF base vs ds q h2 hw.2 (fun j t v h1 h2 => hk (j + 1) t v (by simpa using h1) (by simpa using h2))
  have := hk 0 t v rfl rfl
  simp only [Value.okWide, hu] at this
  obtain ⟨cs, rfl, _, _⟩ := this
  refine ⟨(x, z), .agg cs'.toArray :: ws, VRs.cons (VRs.agg ?_) e3, cs', ws, rfl, e2, e4⟩
  simpa [Value.cells] using e1.rel
/-- All arguments read behind the call as they did. -/
theorem trodAll_below (hl : laidOutB P = true) {W' : World} (hb : Below W0.heap.size W0 W') : ∀ {ts : List TypeId} {vs : List Value} {ds : List (DataW H)} {ps : List MemPlace}, (ts.all fun t => P.readableRec t && decide (t < P.types.size)) = true → DataW.TrodAll enc P W0 0 (fun _ => true) true ts vs ds ps → DataW.TrodAll enc P W' 0 (fun b => decide (b < W0.heap.size)) true ts vs ds ps
  | [], vs, ds, ps, _, h => by obtain ⟨rfl, rfl, rfl⟩ := trodAll_nil h; rfl
  | t :: ts, vs, ds, ps, hr, h => by
    simp only [List.all_cons, Bool.and_eq_true] at hr
    obtain ⟨v, vs, d, ds, p, q, rfl, rfl, rfl, h1, h2⟩ := trodAll_cons h
    have hlt : ∀ x ∈ p, x.block < W0.heap.size := by
      obtain ⟨m, hm⟩ := h1
      exact DataW.trod_lt m _ _ _ hm
    exact trodAll_cons_mk (Below.trod hl hr.1.1 (of_decide_eq_true hr.1.2) h1 hb hlt) (trodAll_below hl hb hr.2 h2)
end
end Go.Proofs.AbM
