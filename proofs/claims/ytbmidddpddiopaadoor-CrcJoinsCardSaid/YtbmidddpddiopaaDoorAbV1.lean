/- A machine of values: slices that nobody changes stand by what they hold; what changes stands in blocks of the call's own. Its relation to the abstract machine. -/
import Derived.Test.YtbmidddpddiopaaDoorAbObj
set_option linter.unusedVariables false
set_option linter.unusedSimpArgs false
namespace Go.Proofs.AbM
open Go.RowKit

/-- A value: closed; of parts; a slice that stays as it is, with its cells; a slice, a pointer of one's own block; a pointer to cells that stay; a function; anything. -/
inductive AV where
  | sc (v : Value)
  | agg (cs : List AV)
  | tup (vs : List AV)
  | isl (nl : Bool) (n : Nat) (cs : List AV)
  | own (j off n : Nat)
  | op (j off : Nat)
  | ip (cs : List AV) (off : Nat)
  | fn (f : Fn) (xs ys : List AV)
  | junk
inductive VB where
  | cells (e : TypeId) (nl : Bool) (cs : List AV)
  | iter (s : ByteArray) (pos : Nat)
abbrev VH := Nat → Option VB
abbrev VF := Nat → AV
def updV (ρ : VF) (d : Nat) (v : AV) : VF := fun j => if j = d then v else ρ j
def hset (h : VH) (j : Nat) (b : VB) : VH := fun i => if i = j then some b else h i
def hdel (h : VH) (j : Nat) : VH := fun i => if i = j then none else h i
theorem hset_at (h : VH) (j : Nat) (b : VB) : hset h j b j = some b := by simp [hset]
theorem hset_ne (h : VH) {j i : Nat} (b : VB) (hn : i ≠ j) : hset h j b i = h i := by simp [hset, hn]
theorem hdel_at (h : VH) (j : Nat) : hdel h j j = none := by simp [hdel]
theorem hdel_ne (h : VH) {j i : Nat} (hn : i ≠ j) : hdel h j i = h i := by simp [hdel, hn]
theorem hdel_hset {h : VH} {j : Nat} {b : VB} (hj : h j = none) : hdel (hset h j b) j = h := by
  funext i; unfold hdel hset
  by_cases hi : i = j
  · subst hi; simp [hj]
  · simp [hi]
theorem hset_hset (h : VH) (j : Nat) (b c : VB) : hset (hset h j b) j c = hset h j c := by
  funext i; unfold hset; split <;> rfl
theorem hset_hdel (h : VH) (j : Nat) (b : VB) : hset (hdel h j) j b = hset h j b := by
  funext i; unfold hset hdel; split <;> rfl
theorem hdel_hset_ne {h : VH} {i j : Nat} {b : VB} (hn : i ≠ j) : hdel (hset h j b) i = hset (hdel h i) j b := by
  funext k; unfold hset hdel
  by_cases h1 : k = i
  · subst h1; simp [hn]
  · simp [h1]
theorem hset_comm {h : VH} {i j : Nat} {b c : VB} (hn : i ≠ j) : hset (hset h j b) i c = hset (hset h i c) j b := by
  funext k; unfold hset
  by_cases h1 : k = i
  · subst h1; simp [hn]
  · simp [h1]
theorem hset_same {h : VH} {j : Nat} {b : VB} (hj : h j = some b) : hset h j b = h := by
  funext i; unfold hset; split
  · rename_i hi; subst hi; exact hj.symm
  · rfl

/-! ### The relation -/
structure Cx where
  N : Nat
  L : Nat → Option (Nat × Bool)
  Z : Nat → Option Blk
/-- A cell of what stays. -/
def zr (W0 : World) (C : Cx) (a : Addr) : Option Value :=
  if a.block < W0.heap.size then (match W0.cell? a with | some v => lowB W0.heap.size v | none => none)
  else if a.spot.isSome then none
  else match C.Z (a.block - W0.heap.size) with | some (.cells _ xs) => xs[a.off]? | _ => none
def scV : Value → Bool
  | .bool _ | .int _ _ | .float _ _ | .complex _ _ _ | .string _ | .nilFunc | .nilIface => true
  | .pointer none | .slice none _ _ | .map none | .chan none => true
  | _ => false
theorem scV_clo {v : Value} (h : scV v = true) (n : Nat) : clo (n + 1) v = true := by
  cases v with
  | pointer a => cases a <;> first | rfl | simp [scV] at h
  | slice a _ _ => cases a <;> first | rfl | simp [scV] at h
  | map a => cases a <;> first | rfl | simp [scV] at h
  | chan a => cases a <;> first | rfl | simp [scV] at h
  | _ => first | rfl | simp [scV] at h
theorem scV_one {v : Value} (h : scV v = true) : v.oneCell' = true := by cases v <;> first | rfl | simp [scV] at h
theorem one_cells {v : Value} (h : v.oneCell' = true) : v.cells = #[v] := by cases v <;> first | rfl | simp [Value.oneCell'] at h

inductive RV (W0 : World) (C : Cx) : AV → Value → Prop
  | sc {v : Value} : scV v = true → RV W0 C (.sc v) v
  | agg {cs : List AV} {us : Array Value} : cs.length = us.size → (∀ (i : Nat) (c : AV) (u : Value), cs[i]? = some c → us[i]? = some u → RV W0 C c u) → RV W0 C (.agg cs) (.agg us)
  | tup {cs : List AV} {us : Array Value} : cs.length = us.size → (∀ (i : Nat) (c : AV) (u : Value), cs[i]? = some c → us[i]? = some u → RV W0 C c u) → RV W0 C (.tup cs) (.tuple us)
  | isl {nl : Bool} {n : Nat} {cs : List AV} {a : Option Addr} {c : Nat} {us : List Value} : okA W0.heap.size a n c → nl = a.isNone → cs.length = us.length → (∀ (i : Nat) (u : Value), us[i]? = some u → ∃ ad : Addr, a = some ad ∧ zr W0 C (ad.add i) = some u) →
      (∀ (i : Nat) (c : AV) (u : Value), cs[i]? = some c → us[i]? = some u → RV W0 C c u) → RV W0 C (.isl nl n cs) (.slice a n c)
  | own {j off n : Nat} {v : Value} : j < C.N → v.oneCell' = true → (∀ b, C.L j = some (b, false) → v = .slice (some ⟨W0.heap.size + b, off, none⟩) n n) → (∀ b, C.L j = some (b, true) → v = .slice none 0 0 ∧ off = 0 ∧ n = 0) → RV W0 C (.own j off n) v
  | op {j off : Nat} {v : Value} : j < C.N → v.oneCell' = true → (∀ b, C.L j = some (b, false) → v = .pointer (some ⟨W0.heap.size + b, off, none⟩)) → RV W0 C (.op j off) v
  | ip {cs : List AV} {off : Nat} {ad : Addr} {us : List Value} : cs.length = us.length → (∀ (i : Nat) (u : Value), us[i]? = some u → zr W0 C (ad.add i) = some u) → (∀ (i : Nat) (c : AV) (u : Value), cs[i]? = some c → us[i]? = some u → RV W0 C c u) → RV W0 C (.ip cs off) (.pointer (some (ad.add off)))
  | fn {f : Fn} {xs ys : List AV} {us ws : Array Value} : xs.length = us.size → (∀ (i : Nat) (c : AV) (u : Value), xs[i]? = some c → us[i]? = some u → RV W0 C c u) → ys.length = ws.size → (∀ (i : Nat) (c : AV) (u : Value), ys[i]? = some c → ws[i]? = some u → RV W0 C c u) → RV W0 C (.fn f xs ys) (.func f us ws)
  | junk {v : Value} : RV W0 C .junk v
def RVs (W0 : World) (C : Cx) (cs : List AV) (us : List Value) : Prop := cs.length = us.length ∧ ∀ (i : Nat) (c : AV) (u : Value), cs[i]? = some c → us[i]? = some u → RV W0 C c u
/-- What a later state of the relation keeps of an earlier one. -/
structure Cx.le (C C' : Cx) : Prop where
  n : C.N ≤ C'.N
  l : ∀ j, j < C.N → C'.L j = C.L j ∨ C'.L j = none
  z : ∀ b xs, C.Z b = some xs → C'.Z b = some xs
section
variable {W0 : World} {C C' C'' : Cx} {v : AV} {u : Value} {cs ds : List AV} {us ws : List Value}
theorem Cx.le.refl (C : Cx) : C.le C := ⟨Nat.le_refl _, fun _ _ => .inl rfl, fun _ _ h => h⟩
theorem Cx.le.trans (a : C.le C') (b : C'.le C'') : C.le C'' := ⟨Nat.le_trans a.n b.n, fun j hj => by
  rcases b.l j (Nat.lt_of_lt_of_le hj a.n) with h | h
  · rw [h]; exact a.l j hj
  · exact .inr h, fun i xs h => b.z i xs (a.z i xs h)⟩
theorem zr_mono (e : C.le C') {a : Addr} {u : Value} (h : zr W0 C a = some u) : zr W0 C' a = some u := by
  unfold zr at h ⊢
  split
  · rename_i hb; rw [if_pos hb] at h; exact h
  · rename_i hb
    rw [if_neg hb] at h
    split
    · rename_i hs; rw [if_pos hs] at h; cases h
    · rename_i hs
      rw [if_neg hs] at h
      cases hz : C.Z (a.block - W0.heap.size) with
      | none => rw [hz] at h; cases h
      | some x => rw [hz] at h; rw [e.z _ _ hz]; exact h
theorem RV.mono (e : C.le C') (h : RV W0 C v u) : RV W0 C' v u := by
  induction h with
  | sc h => exact .sc h
  | agg hl _ ih => exact .agg hl ih
  | tup hl _ ih => exact .tup hl ih
  | isl h1 h2 h3 h4 _ ih => exact .isl h1 h2 h3 (fun i u hu => by obtain ⟨ad, ha, hz⟩ := h4 i u hu; exact ⟨ad, ha, zr_mono e hz⟩) ih
  | own h1 h2 h3 h4 =>
    refine .own (Nat.lt_of_lt_of_le h1 e.n) h2 (fun b hb => ?_) (fun b hb => ?_)
    · rcases e.l _ h1 with h | h
      · rw [h] at hb; exact h3 b hb
      · rw [h] at hb; cases hb
    · rcases e.l _ h1 with h | h
      · rw [h] at hb; exact h4 b hb
      · rw [h] at hb; cases hb
  | op h1 h2 h3 =>
    refine .op (Nat.lt_of_lt_of_le h1 e.n) h2 (fun b hb => ?_)
    rcases e.l _ h1 with h | h
    · rw [h] at hb; exact h3 b hb
    · rw [h] at hb; cases hb
  | ip h1 h2 _ ih => exact .ip h1 (fun i u hu => zr_mono e (h2 i u hu)) ih
  | fn h1 _ h2 _ ih1 ih2 => exact .fn h1 ih1 h2 ih2
  | junk => exact .junk
theorem RVs.mono (e : C.le C') (h : RVs W0 C cs us) : RVs W0 C' cs us := ⟨h.1, fun i c u h1 h2 => (h.2 i c u h1 h2).mono e⟩
theorem RVs.nil : RVs W0 C [] [] := ⟨rfl, fun i c u h => by simp at h⟩
theorem RVs.cons (h : RV W0 C v u) (k : RVs W0 C cs us) : RVs W0 C (v :: cs) (u :: us) := by
  refine ⟨by simp [k.1], fun i c w h1 h2 => ?_⟩
  cases i with
  | zero => simp at h1 h2; subst h1; subst h2; exact h
  | succ i => simp at h1 h2; exact k.2 i c w h1 h2
theorem RVs.head (h : RVs W0 C (v :: cs) us) : ∃ u us', us = u :: us' ∧ RV W0 C v u ∧ RVs W0 C cs us' := by
  cases us with
  | nil => have := h.1; simp at this
  | cons u us' => exact ⟨u, us', rfl, h.2 0 v u rfl rfl, ⟨by have := h.1; simpa using this, fun i c w h1 h2 => h.2 (i + 1) c w (by simpa using h1) (by simpa using h2)⟩⟩
theorem RVs.append (h : RVs W0 C cs us) (k : RVs W0 C ds ws) : RVs W0 C (cs ++ ds) (us ++ ws) := by
  refine ⟨by simp [h.1, k.1], fun i c w h1 h2 => ?_⟩
  rcases Nat.lt_or_ge i cs.length with hi | hi
  · rw [List.getElem?_append_left hi] at h1
    rw [List.getElem?_append_left (by rw [← h.1]; exact hi)] at h2
    exact h.2 i c w h1 h2
  · rw [List.getElem?_append_right hi] at h1
    rw [List.getElem?_append_right (by rw [← h.1]; exact hi), ← h.1] at h2
    exact k.2 _ c w h1 h2
theorem RVs.get (h : RVs W0 C cs us) {i : Nat} {c : AV} (hi : cs[i]? = some c) : ∃ u, us[i]? = some u ∧ RV W0 C c u := by
  have hl := (List.getElem?_eq_some_iff.1 hi).1
  exact ⟨us[i]'(by rw [← h.1]; exact hl), List.getElem?_eq_getElem _, h.2 i c _ hi (List.getElem?_eq_getElem _)⟩
theorem RVs.take (h : RVs W0 C cs us) (n : Nat) : RVs W0 C (cs.take n) (us.take n) := by
  refine ⟨by simp [h.1], fun i c w h1 h2 => ?_⟩
  rw [List.getElem?_take] at h1 h2
  split at h1
  · rename_i hi; rw [if_pos hi] at h2; exact h.2 i c w h1 h2
  · cases h1
theorem RVs.drop (h : RVs W0 C cs us) (n : Nat) : RVs W0 C (cs.drop n) (us.drop n) := by
  refine ⟨by simp [h.1], fun i c w h1 h2 => ?_⟩
  rw [List.getElem?_drop] at h1 h2
  exact h.2 _ c w h1 h2
theorem RVs.replicate (k : RV W0 C v u) (n : Nat) : RVs W0 C (List.replicate n v) (List.replicate n u) :=
  ⟨by simp, fun i c w h1 h2 => by
    rw [List.getElem?_replicate] at h1 h2
    split at h1
    · rename_i hi; rw [if_pos hi] at h2; cases h1; cases h2; exact k
    · cases h1⟩
theorem RVs.flat {α : Type} {f : α → List AV} {g : α → List Value} : ∀ {xs : List α}, (∀ x ∈ xs, RVs W0 C (f x) (g x)) → RVs W0 C (xs.flatMap f) (xs.flatMap g)
  | [], _ => RVs.nil
  | x :: xs, h => by
    rw [List.flatMap_cons, List.flatMap_cons]
    exact (h x (by simp)).append (RVs.flat fun y hy => h y (by simp [hy]))
def setV (cs : List AV) (o : Nat) (vs : List AV) : List AV := cs.take o ++ vs ++ cs.drop (o + vs.length)
theorem setV_one {cs : List AV} {o : Nat} {v : AV} (ho : o < cs.length) : setV cs o [v] = cs.set o v := by
  unfold setV
  rw [List.set_eq_take_append_cons_drop, if_pos ho]
  simp
theorem RVs.set (h : RVs W0 C cs us) (k : RVs W0 C ds ws) (o : Nat) : RVs W0 C (setV cs o ds) (setCells us o ws) := by
  unfold setV setCells
  rw [k.1]
  exact ((h.take o).append k).append (h.drop _)
def AV.cells : AV → List AV
  | .agg cs => cs
  | v => [v]
def AV.one : AV → Bool
  | .agg _ | .tup _ | .junk => false
  | _ => true
def AV.parts : AV → Bool
  | .tup _ | .junk => false
  | _ => true
theorem RV.one (h : RV W0 C v u) (ho : v.one = true) : u.oneCell' = true := by
  cases h with
  | sc h => exact scV_one h
  | own _ h _ _ => exact h
  | op _ h _ => exact h
  | _ => first | rfl | simp [AV.one] at ho
theorem RV.cells (h : RV W0 C v u) (ho : v.parts = true) : RVs W0 C v.cells u.cells.toList := by
  cases h with
  | agg hl hv => exact ⟨by simpa [AV.cells, Value.cells] using hl, fun i c w h1 h2 => hv i c w h1 (by simpa [Value.cells] using h2)⟩
  | sc h => rw [one_cells (scV_one h)]; exact RVs.cons (.sc h) RVs.nil
  | own h1 h2 h3 h4 => rw [one_cells h2]; exact RVs.cons (.own h1 h2 h3 h4) RVs.nil
  | op h1 h2 h3 => rw [one_cells h2]; exact RVs.cons (.op h1 h2 h3) RVs.nil
  | isl h1 h2 h3 h4 h5 => exact RVs.cons (.isl h1 h2 h3 h4 h5) RVs.nil
  | ip h1 h2 h3 => exact RVs.cons (.ip h1 h2 h3) RVs.nil
  | fn h1 h2 h3 h4 => exact RVs.cons (.fn h1 h2 h3 h4) RVs.nil
  | tup _ _ => simp [AV.parts] at ho
  | junk => simp [AV.parts] at ho
theorem RVs.ones (h : RVs W0 C cs us) (ho : cs.all AV.one = true) : ∀ w ∈ us, w.oneCell' = true := by
  intro w hw
  obtain ⟨i, hi⟩ := List.getElem?_of_mem hw
  have hl := (List.getElem?_eq_some_iff.1 hi).1
  have hi' := List.getElem?_eq_getElem (l := cs) (i := i) (by rw [h.1]; exact hl)
  exact (h.2 i _ w hi' hi).one (List.all_eq_true.1 ho _ (List.mem_of_getElem? hi'))
theorem RVs.aggr (h : RVs W0 C cs us) : RV W0 C (.agg cs) (.agg us.toArray) := .agg (by simpa using h.1) fun i c u h1 h2 => h.2 i c u h1 (by simpa using h2)
theorem RVs.tupr (h : RVs W0 C cs us) : RV W0 C (.tup cs) (.tuple us.toArray) := .tup (by simpa using h.1) fun i c u h1 h2 => h.2 i c u h1 (by simpa using h2)
theorem RV.sc_inv {w : Value} (h : RV W0 C (.sc w) u) : u = w ∧ scV w = true := by cases h with | sc h => exact ⟨rfl, h⟩
theorem RV.agg_inv (h : RV W0 C (.agg cs) u) : ∃ us, u = .agg us ∧ RVs W0 C cs us.toList := by
  cases h with | agg hl hv => exact ⟨_, rfl, by simpa using hl, fun i c u h1 h2 => hv i c u h1 (by simpa using h2)⟩
theorem RV.tup_inv (h : RV W0 C (.tup cs) u) : ∃ us, u = .tuple us ∧ RVs W0 C cs us.toList := by
  cases h with | tup hl hv => exact ⟨_, rfl, by simpa using hl, fun i c u h1 h2 => hv i c u h1 (by simpa using h2)⟩
theorem RV.fn_inv {f : Fn} (h : RV W0 C (.fn f cs ds) u) : ∃ us ws, u = .func f us ws ∧ RVs W0 C cs us.toList ∧ RVs W0 C ds ws.toList := by
  cases h with | fn h1 h2 h3 h4 => exact ⟨_, _, rfl, ⟨by simpa using h1, fun i c u a b => h2 i c u a (by simpa using b)⟩, ⟨by simpa using h3, fun i c u a b => h4 i c u a (by simpa using b)⟩⟩
theorem RV.isl_inv {nl : Bool} {n : Nat} (h : RV W0 C (.isl nl n cs) u) : ∃ a c us, u = .slice a n c ∧ okA W0.heap.size a n c ∧ nl = a.isNone ∧ RVs W0 C cs us ∧ ∀ (i : Nat) (u : Value), us[i]? = some u → ∃ ad : Addr, a = some ad ∧ zr W0 C (ad.add i) = some u := by
  cases h with | isl h1 h2 h3 h4 h5 => exact ⟨_, _, _, rfl, h1, h2, ⟨h3, h5⟩, h4⟩
theorem RV.ip_inv {off : Nat} (h : RV W0 C (.ip cs off) u) : ∃ (ad : Addr) (us : List Value), u = .pointer (some (ad.add off)) ∧ RVs W0 C cs us ∧ ∀ (i : Nat) (u : Value), us[i]? = some u → zr W0 C (ad.add i) = some u := by
  cases h with | ip h1 h2 h3 => exact ⟨_, _, rfl, ⟨h1, h3⟩, h2⟩
theorem RV.own_inv {j off n : Nat} (h : RV W0 C (.own j off n) u) : j < C.N ∧ (∀ b, C.L j = some (b, false) → u = .slice (some ⟨W0.heap.size + b, off, none⟩) n n) ∧ (∀ b, C.L j = some (b, true) → u = .slice none 0 0 ∧ off = 0 ∧ n = 0) := by
  cases h with | own h1 _ h3 h4 => exact ⟨h1, h3, h4⟩
theorem RV.op_inv {j off : Nat} (h : RV W0 C (.op j off) u) : j < C.N ∧ (∀ b, C.L j = some (b, false) → u = .pointer (some ⟨W0.heap.size + b, off, none⟩)) := by
  cases h with | op h1 _ h3 => exact ⟨h1, h3⟩
theorem RVs.scs {vs : List Value} (h : RVs W0 C (vs.map .sc) us) : us = vs := by
  apply List.ext_getElem?
  intro i
  rcases Nat.lt_or_ge i us.length with hi | hi
  · have h1 := List.getElem?_eq_getElem hi
    have hl : i < vs.length := by have := h.1; simp at this; omega
    have h2 := List.getElem?_eq_getElem hl
    have := (h.2 i (.sc vs[i]) us[i] (by rw [List.getElem?_map, h2]; rfl) h1).sc_inv.1
    rw [h1, h2, this]
  · rw [List.getElem?_eq_none hi, List.getElem?_eq_none (by have := h.1; simp at this; omega)]
theorem RVs.of_sc {vs : List Value} (h : ∀ v ∈ vs, scV v = true) : RVs W0 C (vs.map .sc) vs := by
  refine ⟨by simp, fun i c u h1 h2 => ?_⟩
  rw [List.getElem?_map, h2] at h1
  cases h1
  exact .sc (h u (List.mem_of_getElem? h2))
end

/-- The blocks. -/
structure VRel (W0 : World) (C : Cx) (h : VH) (h1 : Hp) : Prop where
  lt : ∀ j, C.N ≤ j → h j = none
  dom : ∀ j x, C.L j = some x → j < C.N ∧ (h j).isSome = true
  blk : ∀ j e nl cs, h j = some (.cells e nl cs) → ∃ b, C.L j = some (b, nl) ∧ (nl = true → cs = []) ∧ (nl = false → ∃ us, h1[b]? = some (.cells e us) ∧ RVs W0 C cs us ∧ C.Z b = none)
  itr : ∀ j s p, h j = some (.iter s p) → ∃ b, C.L j = some (b, false) ∧ h1[b]? = some (.iter s p) ∧ C.Z b = none
  inj : ∀ j j' b, C.L j = some (b, false) → C.L j' = some (b, false) → j = j'
  fz : ∀ b x, C.Z b = some x → h1[b]? = some x
section
variable {W0 : World} {C C' : Cx} {h : VH} {h1 : Hp} {cs : List AV} {us : List Value}
theorem zr_rd (R : VRel W0 C h h1) {a : Addr} {u : Value} (hz : zr W0 C a = some u) : rd W0 h1 a = some u := by
  unfold zr at hz
  unfold rd
  split
  · rename_i hb; rw [if_pos hb] at hz; exact hz
  · rename_i hb
    rw [if_neg hb] at hz
    split
    · rename_i hs; rw [if_pos hs] at hz; cases hz
    · rename_i hs
      rw [if_neg hs] at hz
      split at hz
      · rename_i e xs hx
        rw [R.fz _ _ hx]; exact hz
      · cases hz
theorem rds_pts {a : Addr} : ∀ (us : List Value) (i : Nat), (∀ (k : Nat) (u : Value), us[k]? = some u → rd W0 h1 (a.add (i + k)) = some u) → rds W0 h1 a i us.length = some us
  | [], i, _ => rfl
  | u :: us, i, hh => by
    have h0 := hh 0 u rfl
    rw [Nat.add_zero] at h0
    simp only [List.length_cons, rds]
    rw [h0, Option.bind_some, rds_pts us (i + 1) (fun k w hk => by rw [Nat.add_assoc, Nat.add_comm 1 k]; exact hh (k + 1) w (by simpa using hk))]; rfl
/-- Only what lives is told of. -/
theorem VRel.set (R : VRel W0 C h h1) {j b : Nat} {e : TypeId} {cs : List AV} {cs' : List AV} {us' : List Value} (hj : h j = some (.cells e false cs)) (hb : C.L j = some (b, false)) (hr : RVs W0 C cs' us') :
    VRel W0 C (hset h j (.cells e false cs')) (h1.set b (.cells e us')) := by
  obtain ⟨b', hb', _, hh⟩ := R.blk j e false cs hj
  rw [hb] at hb'; cases hb'
  obtain ⟨us, g1, g2, g4⟩ := hh rfl
  have hlt := (List.getElem?_eq_some_iff.1 g1).1
  refine ⟨fun i hi => ?_, fun i x hx => ?_, fun i e' nl cs1 hi => ?_, fun i s p hi => ?_, R.inj, fun b' xs hz => ?_⟩
  · rw [hset_ne]
    · exact R.lt i hi
    · rintro rfl; have := R.lt i hi; rw [hj] at this; cases this
  · refine ⟨(R.dom i x hx).1, ?_⟩
    unfold hset; split
    · rfl
    · exact (R.dom i x hx).2
  · unfold hset at hi
    split at hi
    · rename_i he; subst he
      cases hi
      exact ⟨b, hb, (fun e => by cases e), fun _ => ⟨us', by rw [List.getElem?_set_self hlt], hr, g4⟩⟩
    · rename_i hne
      obtain ⟨b', k1, k2, k3⟩ := R.blk i e' nl cs1 hi
      refine ⟨b', k1, k2, fun hf => ?_⟩
      subst hf
      obtain ⟨us1, q1, q2⟩ := k3 rfl
      refine ⟨us1, ?_, q2⟩
      rw [List.getElem?_set_ne]
      · exact q1
      · rintro rfl; exact hne (R.inj i j _ k1 hb)
  · unfold hset at hi
    split at hi
    · cases hi
    · rename_i hne
      obtain ⟨b', k1, k2, k3⟩ := R.itr i s p hi
      refine ⟨b', k1, ?_, k3⟩
      rw [List.getElem?_set_ne]
      · exact k2
      · rintro rfl; exact hne (R.inj i j _ k1 hb)
  · have he := R.fz b' xs hz
    rw [List.getElem?_set_ne]
    · exact he
    · rintro rfl; rw [hz] at g4; cases g4
/-- With one block more, number N. -/
def Cx.new (C : Cx) (x : Nat × Bool) : Cx := ⟨C.N + 1, fun j => if j = C.N then some x else C.L j, C.Z⟩
theorem Cx.new_le (C : Cx) (x : Nat × Bool) : C.le (C.new x) := ⟨Nat.le_succ _, fun j hj => .inl (by simp [Cx.new]; omega), fun _ _ h => h⟩
theorem Cx.new_at (C : Cx) (x : Nat × Bool) : (C.new x).L C.N = some x := by simp [Cx.new]
theorem VRel.lt' (R : VRel W0 C h h1) {j b : Nat} (hb : C.L j = some (b, false)) : b < h1.length := by
  obtain ⟨_, hs⟩ := R.dom j _ hb
  obtain ⟨x, hx⟩ := Option.isSome_iff_exists.1 hs
  cases x with
  | cells e nl cs =>
    obtain ⟨b', k1, k2, k3⟩ := R.blk j e nl cs hx
    rw [hb] at k1; cases k1
    obtain ⟨us, q1, _⟩ := k3 rfl
    exact (List.getElem?_eq_some_iff.1 q1).1
  | iter s p =>
    obtain ⟨b', k1, k2, k3⟩ := R.itr j s p hx
    rw [hb] at k1; cases k1
    exact (List.getElem?_eq_some_iff.1 k2).1
theorem VRel.zlt (R : VRel W0 C h h1) {b : Nat} (hb : h1.length ≤ b) : C.Z b = none := by
  cases hz : C.Z b with
  | none => rfl
  | some xs => have he := R.fz b xs hz; have := (List.getElem?_eq_some_iff.1 he).1; omega
theorem VRel.push0 (R : VRel W0 C h h1) (x : Blk) (y : VB)
    (hy : (∃ e cs us, y = .cells e false cs ∧ x = .cells e us ∧ RVs W0 C cs us) ∨ ∃ s p, y = .iter s p ∧ x = .iter s p) : VRel W0 (C.new (h1.length, false)) (hset h C.N y) (h1 ++ [x]) := by
  have hle := C.new_le (h1.length, false)
  refine ⟨fun i hi => ?_, fun i x' hx => ?_, fun i e' nl cs1 hi => ?_, fun i s p hi => ?_, fun i i' b hi hi' => ?_, fun b' xs hz => ?_⟩
  · simp only [Cx.new] at hi
    rw [hset_ne _ _ (by omega)]; exact R.lt i (by omega)
  · simp only [Cx.new] at hx ⊢
    unfold hset
    split at hx
    · rename_i he; subst he; exact ⟨by omega, by simp⟩
    · rename_i he
      rw [if_neg he]
      have := R.dom i x' hx
      exact ⟨by omega, this.2⟩
  · unfold hset at hi
    split at hi
    · rename_i he; subst he
      cases hi
      rcases hy with ⟨e, cs, us, e1, rfl, hr⟩ | ⟨s, p, e1, _⟩
      · cases e1
        exact ⟨_, C.new_at _, (fun e => by cases e), fun _ => ⟨us, by simp, hr.mono hle, R.zlt (Nat.le_refl _)⟩⟩
      · cases e1
    · rename_i hne
      obtain ⟨b', k1, k2, k3⟩ := R.blk i e' nl cs1 hi
      refine ⟨b', by simp [Cx.new, hne, k1], k2, fun hf => ?_⟩
      obtain ⟨us1, q1, q2, q3⟩ := k3 hf
      exact ⟨us1, by rw [List.getElem?_append_left (List.getElem?_eq_some_iff.1 q1).1]; exact q1, q2.mono hle, q3⟩
  · unfold hset at hi
    split at hi
    · rename_i he; subst he
      cases hi
      rcases hy with ⟨e, cs, us, e1, rfl, hr⟩ | ⟨s', p', e1, rfl⟩
      · cases e1
      · cases e1
        exact ⟨_, C.new_at _, by simp, R.zlt (Nat.le_refl _)⟩
    · rename_i hne
      obtain ⟨b', k1, k2, k3⟩ := R.itr i s p hi
      exact ⟨b', by simp [Cx.new, hne, k1], by rw [List.getElem?_append_left (List.getElem?_eq_some_iff.1 k2).1]; exact k2, k3⟩
  · simp only [Cx.new] at hi hi'
    split at hi <;> split at hi'
    · omega
    · cases hi; have := R.lt' hi'; omega
    · cases hi'; have := R.lt' hi; omega
    · exact R.inj i i' b hi hi'
  · have he := R.fz b' xs hz
    rw [List.getElem?_append_left (List.getElem?_eq_some_iff.1 he).1]; exact he
theorem VRel.push (R : VRel W0 C h h1) {e : TypeId} {cs : List AV} {us : List Value} (hr : RVs W0 C cs us) : VRel W0 (C.new (h1.length, false)) (hset h C.N (.cells e false cs)) (h1 ++ [.cells e us]) := R.push0 _ _ (.inl ⟨e, cs, us, rfl, rfl, hr⟩)
/-- A row of one's own that has nothing. -/
theorem VRel.mat (R : VRel W0 C h h1) (e : TypeId) : VRel W0 (C.new (0, true)) (hset h C.N (.cells e true [])) h1 := by
  have hle := C.new_le (0, true)
  refine ⟨fun i hi => ?_, fun i x' hx => ?_, fun i e' nl cs1 hi => ?_, fun i s p hi => ?_, fun i i' b hi hi' => ?_, R.fz⟩
  · simp only [Cx.new] at hi
    rw [hset_ne _ _ (by omega)]; exact R.lt i (by omega)
  · simp only [Cx.new] at hx ⊢
    unfold hset
    split at hx
    · rename_i he; subst he; exact ⟨by omega, by simp⟩
    · rename_i he
      rw [if_neg he]
      have := R.dom i x' hx
      exact ⟨by omega, this.2⟩
  · unfold hset at hi
    split at hi
    · rename_i he; subst he
      cases hi
      exact ⟨0, C.new_at _, fun _ => rfl, fun e => by cases e⟩
    · rename_i hne
      obtain ⟨b', k1, k2, k3⟩ := R.blk i e' nl cs1 hi
      refine ⟨b', by simp [Cx.new, hne, k1], k2, fun hf => ?_⟩
      obtain ⟨us1, q1, q2, q3⟩ := k3 hf
      exact ⟨us1, q1, q2.mono hle, q3⟩
  · unfold hset at hi
    split at hi
    · cases hi
    · rename_i hne
      obtain ⟨b', k1, k2, k3⟩ := R.itr i s p hi
      exact ⟨b', by simp [Cx.new, hne, k1], k2, k3⟩
  · simp only [Cx.new] at hi hi'
    split at hi <;> split at hi' <;> first | cases hi; done | cases hi'; done | exact R.inj i i' b hi hi'
/-- A block is given up. -/
def Cx.drop (C : Cx) (j : Nat) : Cx := ⟨C.N, fun i => if i = j then none else C.L i, C.Z⟩
theorem Cx.drop_le (C : Cx) (j : Nat) : C.le (C.drop j) := ⟨Nat.le_refl _, fun i _ => by simp only [Cx.drop]; split <;> simp, fun _ _ h => h⟩
theorem VRel.drop (R : VRel W0 C h h1) (j : Nat) : VRel W0 (C.drop j) (hdel h j) h1 := by
  have hle := C.drop_le j
  refine ⟨fun i hi => ?_, fun i x hx => ?_, fun i e nl cs hi => ?_, fun i s p hi => ?_, fun i i' b hi hi' => ?_, R.fz⟩
  · unfold hdel; split
    · rfl
    · exact R.lt i hi
  · simp only [Cx.drop] at hx
    split at hx
    · cases hx
    · rename_i hne; rw [hdel_ne _ hne]; exact R.dom i x hx
  · unfold hdel at hi
    split at hi
    · cases hi
    · rename_i hne
      obtain ⟨b, k1, k2, k3⟩ := R.blk i e nl cs hi
      refine ⟨b, by simp [Cx.drop, hne, k1], k2, fun hf => ?_⟩
      obtain ⟨us, q1, q2, q3⟩ := k3 hf
      exact ⟨us, q1, q2.mono hle, q3⟩
  · unfold hdel at hi
    split at hi
    · cases hi
    · rename_i hne
      obtain ⟨b, k1, k2⟩ := R.itr i s p hi
      exact ⟨b, by simp [Cx.drop, hne, k1], k2⟩
  · simp only [Cx.drop] at hi hi'
    split at hi <;> split at hi' <;> first | cases hi; done | cases hi'; done | exact R.inj i i' b hi hi'
/-- .. in the abstract machine too. -/
theorem VRel.dead (R : VRel W0 C h h1) {b : Nat} (hz : C.Z b = none) (hl : ∀ j, C.L j ≠ some (b, false)) (x : Blk) : VRel W0 C h (h1.set b x) := by
  refine ⟨R.lt, R.dom, fun i e nl cs hi => ?_, fun i s p hi => ?_, R.inj, fun b' xs hz' => ?_⟩
  · obtain ⟨b', k1, k2, k3⟩ := R.blk i e nl cs hi
    refine ⟨b', k1, k2, fun hf => ?_⟩
    subst hf
    obtain ⟨us, q1, q2⟩ := k3 rfl
    refine ⟨us, ?_, q2⟩
    rw [List.getElem?_set_ne]
    · exact q1
    · rintro rfl; exact hl i k1
  · obtain ⟨b', k1, k2, k3⟩ := R.itr i s p hi
    refine ⟨b', k1, ?_, k3⟩
    rw [List.getElem?_set_ne]
    · exact k2
    · rintro rfl; exact hl i k1
  · have he := R.fz b' xs hz'
    rw [List.getElem?_set_ne]
    · exact he
    · rintro rfl; rw [hz] at hz'; cases hz'
/-- A block stays as it is from now on. -/
def Cx.frz (C : Cx) (j b : Nat) (x : Blk) : Cx := ⟨C.N, fun i => if i = j then none else C.L i, fun i => if i = b then some x else C.Z i⟩
theorem VRel.frz_le (R : VRel W0 C h h1) {j b : Nat} (hz : C.Z b = none) (x : Blk) : C.le (C.frz j b x) := ⟨Nat.le_refl _, fun i _ => by simp only [Cx.frz]; split <;> simp, fun b' xs hx => by
  simp only [Cx.frz]; split
  · rename_i he; subst he; rw [hz] at hx; cases hx
  · exact hx⟩
theorem VRel.frz (R : VRel W0 C h h1) {j b : Nat} {x : Blk} (hz : C.Z b = none) (hb : C.L j = some (b, false)) (h2 : h1[b]? = some x) : VRel W0 (C.frz j b x) (hdel h j) h1 := by
  have hle := R.frz_le (j := j) hz x
  refine ⟨fun i hi => ?_, fun i x hx => ?_, fun i e nl cs hi => ?_, fun i s p hi => ?_, fun i i' b hi hi' => ?_, fun b' xs hx => ?_⟩
  · unfold hdel; split
    · rfl
    · exact R.lt i hi
  · simp only [Cx.frz] at hx
    split at hx
    · cases hx
    · rename_i hne; rw [hdel_ne _ hne]; exact R.dom i x hx
  · unfold hdel at hi
    split at hi
    · cases hi
    · rename_i hne
      obtain ⟨b', k1, k2, k3⟩ := R.blk i e nl cs hi
      refine ⟨b', by simp [Cx.frz, hne, k1], k2, fun hf => ?_⟩
      obtain ⟨us, q1, q2, q4⟩ := k3 hf
      subst hf
      refine ⟨us, q1, q2.mono hle, ?_⟩
      simp only [Cx.frz]
      rw [if_neg (by rintro rfl; exact hne (R.inj i j _ k1 hb))]; exact q4
  · unfold hdel at hi
    split at hi
    · cases hi
    · rename_i hne
      obtain ⟨b', k1, k2, k3⟩ := R.itr i s p hi
      refine ⟨b', by simp [Cx.frz, hne, k1], k2, ?_⟩
      simp only [Cx.frz]
      rw [if_neg (by rintro rfl; exact hne (R.inj i j _ k1 hb))]; exact k3
  · simp only [Cx.frz] at hi hi'
    split at hi <;> split at hi' <;> first | cases hi; done | cases hi'; done | exact R.inj i i' b hi hi'
  · simp only [Cx.frz] at hx
    split at hx
    · rename_i he; subst he; cases hx; exact h2
    · exact R.fz b' xs hx
end
end Go.Proofs.AbM
