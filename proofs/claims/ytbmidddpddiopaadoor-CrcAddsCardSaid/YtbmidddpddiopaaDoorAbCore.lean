/- An abstract machine over the program's own code: values, a heap of own blocks, what the machine's steps ask (a predicate transformer), and the relation to a world. -/
import Derived.Below
import Derived.Calls
import Derived.Orders
import Derived.Laws.AppendOwn
import Derived.Laws.Cells
import Derived.Laws.Entries
import Derived.Laws.CopyRow
import Derived.Laws.Rows
import Derived.Laws.Tables
import Derived.WalkKit
set_option linter.unusedVariables false
set_option linter.unusedSimpArgs false
namespace Go.Proofs.AbM
open Go.RowKit

/-- A block of the call's own. -/
inductive Blk where
  | dead
  | cells (e : TypeId) (xs : List Value)
  | iter (s : ByteArray) (pos : Nat)
abbrev Hp := List Blk
abbrev Fr := Nat → Value
def upd (ρ : Fr) (d : Nat) (v : Value) : Fr := fun j => if j = d then v else ρ j

/-- A value of one cell that leads to nothing from block B on. -/
def lowA (B : Nat) : Value → Bool
  | .bool _ | .int _ _ | .float _ _ | .complex _ _ _ | .string _ | .nilFunc | .nilIface => true
  | .pointer none | .slice none _ _ | .map none | .chan none => true
  | .pointer (some a) => decide (a.block < B)
  | .slice (some a) _ _ => decide (a.block < B)
  | _ => false
/-- A value that leads to nothing at all. -/
def clo : Nat → Value → Bool
  | 0, _ => false
  | n + 1, v => match v with
    | .bool _ | .int _ _ | .float _ _ | .complex _ _ _ | .string _ | .nilFunc | .nilIface => true
    | .pointer none | .slice none _ _ | .map none | .chan none => true
    | .agg xs => xs.toList.all (clo n)
    | .tuple xs => xs.toList.all (clo n)
    | .func _ xs ys => xs.toList.all (clo n) && ys.toList.all (clo n)
    | _ => false
/-- A cut of nothing: its place is not told. -/
def emptyAt : Addr := ⟨0, 0, some 0⟩

inductive VR (B : Nat) (m : List (Nat × Nat)) : Value → Value → Prop
  | atom {v : Value} : lowA B v = true → VR B m v v
  | ptr {j o b c : Nat} : m[j]? = some (b, c) → VR B m (.pointer (some ⟨B + j, o, none⟩)) (.pointer (some ⟨b, o, none⟩))
  | sl {j o n b c c' : Nat} : m[j]? = some (b, c) → (o = 0 → c' = c) → n ≤ c' → VR B m (.slice (some ⟨B + j, o, none⟩) n n) (.slice (some ⟨b, o, none⟩) n c')
  | emp {a' : Addr} {c' : Nat} : VR B m (.slice (some emptyAt) 0 0) (.slice (some a') 0 c')
  | agg {xs ys : Array Value} : xs.size = ys.size → (∀ (i : Nat) (v v' : Value), xs[i]? = some v → ys[i]? = some v' → VR B m v v') → VR B m (.agg xs) (.agg ys)
  | tup {xs ys : Array Value} : xs.size = ys.size → (∀ (i : Nat) (v v' : Value), xs[i]? = some v → ys[i]? = some v' → VR B m v v') → VR B m (.tuple xs) (.tuple ys)
  | func {fn : Fn} {xs ys zs ws : Array Value} : xs.size = ys.size → (∀ (i : Nat) (v v' : Value), xs[i]? = some v → ys[i]? = some v' → VR B m v v') → zs.size = ws.size → (∀ (i : Nat) (v v' : Value), zs[i]? = some v → ws[i]? = some v' → VR B m v v') → VR B m (.func fn xs zs) (.func fn ys ws)

/-- Rows of values, place by place. -/
def VRs (B : Nat) (m : List (Nat × Nat)) (xs ys : List Value) : Prop := xs.length = ys.length ∧ ∀ (i : Nat) (v v' : Value), xs[i]? = some v → ys[i]? = some v' → VR B m v v'

section
variable {B : Nat} {m m' : List (Nat × Nat)} {v v' : Value} {xs ys zs ws : List Value}
theorem prefix_get {α : Type} {l l' : List α} (h : l <+: l') {i : Nat} {x : α} (hx : l[i]? = some x) : l'[i]? = some x := by
  obtain ⟨t, rfl⟩ := h
  rw [List.getElem?_append_left (List.getElem?_eq_some_iff.1 hx).1]
  exact hx
theorem VR.mono (h : VR B m v v') (hm : m <+: m') : VR B m' v v' := by
  induction h with
  | atom h => exact .atom h
  | ptr h => exact .ptr (prefix_get hm h)
  | sl h h1 h2 => exact .sl (prefix_get hm h) h1 h2
  | emp => exact .emp
  | agg hs _ ih => exact .agg hs ih
  | tup hs _ ih => exact .tup hs ih
  | func hs _ ht _ ih ih' => exact .func hs ih ht ih'
theorem VRs.mono (h : VRs B m xs ys) (hm : m <+: m') : VRs B m' xs ys := ⟨h.1, fun i v v' h1 h2 => (h.2 i v v' h1 h2).mono hm⟩
theorem VRs.nil : VRs B m [] [] := ⟨rfl, fun i v v' h => by simp at h⟩
theorem VRs.cons (h : VR B m v v') (k : VRs B m xs ys) : VRs B m (v :: xs) (v' :: ys) := by
  refine ⟨by simp [k.1], fun i u u' h1 h2 => ?_⟩
  cases i with
  | zero => simp at h1 h2; subst h1; subst h2; exact h
  | succ i => simp at h1 h2; exact k.2 i u u' h1 h2
theorem VRs.head (h : VRs B m (v :: xs) ys) : ∃ v' ys', ys = v' :: ys' ∧ VR B m v v' ∧ VRs B m xs ys' := by
  cases ys with
  | nil => have := h.1; simp at this
  | cons v' ys' => exact ⟨v', ys', rfl, h.2 0 v v' rfl rfl, ⟨by have := h.1; simpa using this, fun i u u' h1 h2 => h.2 (i + 1) u u' (by simpa using h1) (by simpa using h2)⟩⟩
theorem VRs.append (h : VRs B m xs ys) (k : VRs B m zs ws) : VRs B m (xs ++ zs) (ys ++ ws) := by
  refine ⟨by simp [h.1, k.1], fun i u u' h1 h2 => ?_⟩
  rcases Nat.lt_or_ge i xs.length with hi | hi
  · rw [List.getElem?_append_left hi] at h1
    rw [List.getElem?_append_left (by rw [← h.1]; exact hi)] at h2
    exact h.2 i u u' h1 h2
  · rw [List.getElem?_append_right hi] at h1
    rw [List.getElem?_append_right (by rw [← h.1]; exact hi), ← h.1] at h2
    exact k.2 _ u u' h1 h2
theorem VRs.get (h : VRs B m xs ys) {i : Nat} {v : Value} (hi : xs[i]? = some v) : ∃ v', ys[i]? = some v' ∧ VR B m v v' := by
  have hl := (List.getElem?_eq_some_iff.1 hi).1
  refine ⟨ys[i]'(by rw [← h.1]; exact hl), List.getElem?_eq_getElem _, h.2 i v _ hi (List.getElem?_eq_getElem _)⟩
theorem VRs.take (h : VRs B m xs ys) (n : Nat) : VRs B m (xs.take n) (ys.take n) := by
  refine ⟨by simp [h.1], fun i u u' h1 h2 => ?_⟩
  rw [List.getElem?_take] at h1 h2
  split at h1
  · rename_i hi; rw [if_pos hi] at h2; exact h.2 i u u' h1 h2
  · cases h1
theorem VRs.drop (h : VRs B m xs ys) (n : Nat) : VRs B m (xs.drop n) (ys.drop n) := by
  refine ⟨by simp [h.1], fun i u u' h1 h2 => ?_⟩
  rw [List.getElem?_drop] at h1 h2
  exact h.2 _ u u' h1 h2
theorem VRs.set (h : VRs B m xs ys) (k : VR B m v v') (n : Nat) : VRs B m (xs.set n v) (ys.set n v') := by
  refine ⟨by simp [h.1], fun i u u' h1 h2 => ?_⟩
  rw [List.getElem?_set] at h1 h2
  by_cases hn : n = i
  · subst hn
    simp only [if_true] at h1 h2
    split at h1
    · rename_i hl; rw [if_pos (by rw [← h.1]; exact hl)] at h2
      cases h1; cases h2; exact k
    · cases h1
  · simp only [hn, if_false] at h1 h2
    exact h.2 i u u' h1 h2
theorem VRs.replicate (k : VR B m v v') (n : Nat) : VRs B m (List.replicate n v) (List.replicate n v') :=
  ⟨by simp, fun i u u' h1 h2 => by
    rw [List.getElem?_replicate] at h1 h2
    split at h1
    · rename_i hi; rw [if_pos hi] at h2; cases h1; cases h2; exact k
    · cases h1⟩
theorem VRs.of_agg {xs ys : Array Value} (h : VR B m (.agg xs) (.agg ys)) : VRs B m xs.toList ys.toList := by
  cases h with
  | atom h => simp [lowA] at h
  | agg hs hv => exact ⟨by simpa using hs, fun i v v' h1 h2 => hv i v v' (by simpa using h1) (by simpa using h2)⟩
theorem VRs.agg {xs ys : Array Value} (h : VRs B m xs.toList ys.toList) : VR B m (.agg xs) (.agg ys) := .agg (by simpa using h.1) fun i v v' h1 h2 => h.2 i v v' (by simpa using h1) (by simpa using h2)
theorem VRs.agg' {xs ys : List Value} (h : VRs B m xs ys) : VR B m (.agg xs.toArray) (.agg ys.toArray) := VRs.agg (by simpa using h)
theorem VR.clo : ∀ (n : Nat) (v : Value), clo n v = true → VR B m v v
  | 0, _, h => by simp [AbM.clo] at h
  | n + 1, v, h => by
    cases v with
    | agg xs =>
      simp only [AbM.clo] at h
      refine .agg rfl fun i u u' h1 h2 => ?_
      rw [h1] at h2; cases h2
      exact VR.clo n u (List.all_eq_true.1 h u (by simpa using Array.mem_of_getElem? h1))
    | tuple xs =>
      simp only [AbM.clo] at h
      refine .tup rfl fun i u u' h1 h2 => ?_
      rw [h1] at h2; cases h2
      exact VR.clo n u (List.all_eq_true.1 h u (by simpa using Array.mem_of_getElem? h1))
    | func fn xs ys =>
      simp only [AbM.clo, Bool.and_eq_true] at h
      refine .func rfl (fun i u u' h1 h2 => ?_) rfl (fun i u u' h1 h2 => ?_)
      · rw [h1] at h2; cases h2
        exact VR.clo n u (List.all_eq_true.1 h.1 u (by simpa using Array.mem_of_getElem? h1))
      · rw [h1] at h2; cases h2
        exact VR.clo n u (List.all_eq_true.1 h.2 u (by simpa using Array.mem_of_getElem? h1))
    | pointer a => cases a <;> first | exact .atom rfl | simp [AbM.clo] at h
    | slice a _ _ => cases a <;> first | exact .atom rfl | simp [AbM.clo] at h
    | map a => cases a <;> first | exact .atom rfl | simp [AbM.clo] at h
    | chan a => cases a <;> first | exact .atom rfl | simp [AbM.clo] at h
    | bool _ => exact .atom rfl
    | int _ _ => exact .atom rfl
    | float _ _ => exact .atom rfl
    | complex _ _ _ => exact .atom rfl
    | string _ => exact .atom rfl
    | nilFunc => exact .atom rfl
    | nilIface => exact .atom rfl
    | iface _ _ => simp [AbM.clo] at h
theorem VR.undef : VR B m undef undef := .tup rfl fun i v v' h => by simp at h
theorem VR.int_inv {k : IntKind} {n : Int} (h : VR B m (.int k n) v') : v' = .int k n := by cases h; rfl
theorem VR.bool_inv {b : Bool} (h : VR B m (.bool b) v') : v' = .bool b := by cases h; rfl
theorem VR.string_inv {s : ByteArray} (h : VR B m (.string s) v') : v' = .string s := by cases h; rfl
theorem VR.agg_inv {xs : Array Value} (h : VR B m (.agg xs) v') : ∃ ys, v' = .agg ys ∧ VRs B m xs.toList ys.toList := by
  cases h with
  | atom h => simp [lowA] at h
  | agg hs hv => exact ⟨_, rfl, VRs.of_agg (.agg hs hv)⟩
theorem VR.tup_inv {xs : Array Value} (h : VR B m (.tuple xs) v') : ∃ ys, v' = .tuple ys ∧ VRs B m xs.toList ys.toList := by
  cases h with
  | atom h => simp [lowA] at h
  | tup hs hv => exact ⟨_, rfl, ⟨by simpa using hs, fun i v v' h1 h2 => hv i v v' (by simpa using h1) (by simpa using h2)⟩⟩
theorem VR.func_inv {fn : Fn} {xs zs : Array Value} (h : VR B m (.func fn xs zs) v') : ∃ ys ws, v' = .func fn ys ws ∧ VRs B m xs.toList ys.toList ∧ VRs B m zs.toList ws.toList := by
  cases h with
  | atom h => simp [lowA] at h
  | func hs hv ht hw => exact ⟨_, _, rfl, ⟨by simpa using hs, fun i v v' h1 h2 => hv i v v' (by simpa using h1) (by simpa using h2)⟩, ⟨by simpa using ht, fun i v v' h1 h2 => hw i v v' (by simpa using h1) (by simpa using h2)⟩⟩
theorem VR.pnil_inv (h : VR B m (.pointer none) v') : v' = .pointer none := by cases h; rfl
theorem VR.snil_inv {n c : Nat} (h : VR B m (.slice none n c) v') : v' = .slice none n c := by cases h; rfl
/-- A pointer's place: below B the same, else by m. -/
def AR (B : Nat) (m : List (Nat × Nat)) (a a' : Addr) : Prop := (a.block < B ∧ a' = a) ∨ ∃ j o b c, a = ⟨B + j, o, none⟩ ∧ a' = ⟨b, o, none⟩ ∧ m[j]? = some (b, c)
theorem VR.ptr_inv {a : Addr} (h : VR B m (.pointer (some a)) v') : ∃ a', v' = .pointer (some a') ∧ AR B m a a' := by
  cases h with
  | atom h => exact ⟨a, rfl, .inl ⟨by simpa [lowA] using h, rfl⟩⟩
  | ptr h => exact ⟨_, rfl, .inr ⟨_, _, _, _, rfl, rfl, h⟩⟩
theorem AR.ptr {a a' : Addr} (h : AR B m a a') : VR B m (.pointer (some a)) (.pointer (some a')) := by
  rcases h with ⟨h, rfl⟩ | ⟨j, o, b, c, rfl, rfl, h⟩
  · exact .atom (by simpa [lowA] using h)
  · exact .ptr h
theorem AR.own {j o : Nat} {a' : Addr} (h : AR B m ⟨B + j, o, none⟩ a') : ∃ b c, a' = ⟨b, o, none⟩ ∧ m[j]? = some (b, c) := by
  rcases h with ⟨h, rfl⟩ | ⟨j', o', b, c, he, rfl, h⟩
  · exact absurd (show B + j < B from h) (by omega)
  · injection he with h1 h2 _
    obtain rfl : j = j' := by omega
    subst h2
    exact ⟨b, c, rfl, h⟩
/-- What a slice with a place is. -/
theorem VR.slice_inv {a : Addr} {n c : Nat} (h : VR B m (.slice (some a) n c) v') : (a.block < B ∧ v' = .slice (some a) n c) ∨ (∃ j o b cb c', a = ⟨B + j, o, none⟩ ∧ c = n ∧ v' = .slice (some ⟨b, o, none⟩) n c' ∧ m[j]? = some (b, cb) ∧ (o = 0 → c' = cb) ∧ n ≤ c') ∨
    (a = emptyAt ∧ n = 0 ∧ c = 0 ∧ ∃ a' c', v' = .slice (some a') 0 c') := by
  cases h with
  | atom h => exact .inl ⟨by simpa [lowA] using h, rfl⟩
  | sl h h1 h2 => exact .inr (.inl ⟨_, _, _, _, _, rfl, rfl, rfl, h, h1, h2⟩)
  | emp => exact .inr (.inr ⟨rfl, rfl, rfl, _, _, rfl⟩)
theorem VR.own_inv {j o n c : Nat} (h : VR B m (.slice (some ⟨B + j, o, none⟩) n c) v') : ∃ b cb c', c = n ∧ v' = .slice (some ⟨b, o, none⟩) n c' ∧ m[j]? = some (b, cb) ∧ (o = 0 → c' = cb) ∧ n ≤ c' := by
  rcases h.slice_inv with ⟨h, _⟩ | ⟨j', o', b, cb, c', he, h1, h2, h3⟩ | ⟨he, _⟩
  · exact absurd (show B + j < B from h) (by omega)
  · injection he with e1 e2 _
    obtain rfl : j = j' := by omega
    subst e2
    exact ⟨b, cb, c', h1, h2, h3⟩
  · injection he with _ _ e3
    cases e3
theorem add_at (b o i : Nat) : (⟨b, o, none⟩ : Addr).add i = ⟨b, o + i, none⟩ := by unfold Addr.add; split <;> simp_all
theorem add_blk (a : Addr) (i : Nat) : (a.add i).block = a.block := by unfold Addr.add; split <;> rfl
theorem AR.add {a a' : Addr} (h : AR B m a a') (i : Nat) : AR B m (a.add i) (a'.add i) := by
  rcases h with ⟨h, rfl⟩ | ⟨j, o, b, c, rfl, rfl, h⟩
  · exact .inl ⟨by rw [add_blk]; exact h, rfl⟩
  · rw [add_at, add_at]; exact .inr ⟨j, o + i, b, c, rfl, rfl, h⟩
theorem VR.one (h : VR B m v v') : v'.oneCell' = v.oneCell' := by cases h <;> rfl
theorem VR.cells (h : VR B m v v') : VRs B m v.cells.toList v'.cells.toList := by
  cases h with
  | agg hs hv => exact VRs.of_agg (.agg hs hv)
  | atom h =>
    have : v.cells = #[v] := by cases v <;> first | rfl | simp [lowA] at h
    rw [this]; exact VRs.cons (.atom h) VRs.nil
  | ptr h => exact VRs.cons (.ptr h) VRs.nil
  | sl h h1 h2 => exact VRs.cons (.sl h h1 h2) VRs.nil
  | emp => exact VRs.cons .emp VRs.nil
  | tup hs hv => exact VRs.cons (.tup hs hv) VRs.nil
  | func hs hv ht hw => exact VRs.cons (.func hs hv ht hw) VRs.nil
end

/-! ### The heap, and its relation to a world -/
/-- A cell of the base world, as it is read: an empty slice's place is not told. -/
def lowB (B : Nat) : Value → Option Value
  | .slice (some _) 0 _ => some (.slice (some emptyAt) 0 0)
  | v => if lowA B v then some v else none
theorem lowB_rel {B : Nat} {m : List (Nat × Nat)} {u v : Value} (h : lowB B u = some v) : VR B m v u ∧ v.oneCell' = true := by
  unfold lowB at h
  split at h
  · cases h; exact ⟨.emp, rfl⟩
  · split at h
    · rename_i hl
      cases h
      refine ⟨.atom hl, ?_⟩
      cases u <;> first | rfl | simp [lowA] at hl
    · cases h
/-- A cell of memory: of the base world, or of an own block. -/
def rd (W0 : World) (h : Hp) (a : Addr) : Option Value :=
  if a.block < W0.heap.size then
    match W0.cell? a with
    | some v => lowB W0.heap.size v
    | none => none
  else if a.spot.isSome then none
  else match h[a.block - W0.heap.size]? with
    | some (.cells _ xs) => xs[a.off]?
    | _ => none
def rds (W0 : World) (h : Hp) (a : Addr) (i : Nat) : Nat → Option (List Value)
  | 0 => some []
  | k + 1 => (rd W0 h (a.add i)).bind fun v => (rds W0 h a (i + 1) k).map (v :: ·)

structure Rel (P : Program) (W0 : World) (m : List (Nat × Nat)) (h : Hp) (W : World) : Prop where
  len : m.length = h.length
  below : Below W0.heap.size W0 W
  at_ : ∀ (j b c : Nat), m[j]? = some (b, c) → W0.heap.size ≤ b ∧ b < W.heap.size
  blk : ∀ (j : Nat) (e : TypeId) (xs : List Value), h[j]? = some (.cells e xs) → ∃ (b c : Nat) (cur : Array Value) (fr : Nat × Nat) (i : TypeInfo), m[j]? = some (b, c) ∧ W.heap[b]? = some (.cells cur e fr) ∧
    P.info? e = some i ∧ cur.size = c * i.size ∧ c ≤ maxLen ∧ (fr.1 = fr.2 ∨ cur.size ≤ fr.1) ∧ xs.length ≤ cur.size ∧ VRs W0.heap.size m xs (cur.toList.take xs.length) ∧ ∀ v ∈ xs, v.oneCell' = true
  itr : ∀ (j : Nat) (s : ByteArray) (pos : Nat), h[j]? = some (.iter s pos) → ∃ b c, m[j]? = some (b, c) ∧ W.heap[b]? = some (.stringIter s pos)
  inj : ∀ (j j' b c c' : Nat), m[j]? = some (b, c) → m[j']? = some (b, c') → (∃ x, h[j]? = some x ∧ x ≠ .dead) → (∃ x, h[j']? = some x ∧ x ≠ .dead) → j = j'

section
variable {P : Program} {W0 W : World} {m m' : List (Nat × Nat)} {h : Hp}
theorem Rel.refl (P : Program) (W0 : World) : Rel P W0 [] [] W0 :=
  ⟨rfl, Below.refl _ _, fun j b c hj => by simp at hj, fun j e xs hj => by simp at hj, fun j s p hj => by simp at hj, fun j j' b c c' hj => by simp at hj⟩
theorem rd_rel (R : Rel P W0 m h W) {a a' : Addr} {v : Value} (ha : AR W0.heap.size m a a') (hv : rd W0 h a = some v) : ∃ v', W.cell? a' = some v' ∧ VR W0.heap.size m v v' ∧ v.oneCell' = true := by
  rcases ha with ⟨hlt, rfl⟩ | ⟨j, o, b, c, rfl, rfl, hm⟩
  · rw [rd, if_pos hlt] at hv
    cases hc : W0.cell? a' with
    | none => rw [hc] at hv; cases hv
    | some u =>
      rw [hc] at hv
      simp only at hv
      obtain ⟨h1, h2⟩ := lowB_rel (m := m) hv
      exact ⟨u, (R.below.cell hlt).trans hc, h1, h2⟩
  · rw [rd, if_neg (by show ¬ W0.heap.size + j < W0.heap.size; omega)] at hv
    simp only [Option.isSome_none, Bool.false_eq_true, if_false, Nat.add_sub_cancel_left] at hv
    cases hj : h[j]? with
    | none => rw [hj] at hv; cases hv
    | some x =>
      rw [hj] at hv
      cases x with
      | dead => cases hv
      | iter s p => cases hv
      | cells e xs =>
        simp only at hv
        obtain ⟨b', c', cur, fr, i, hm', hb, hi, hs, hc, hfr, hl, hx, h1⟩ := R.blk j e xs hj
        rw [hm] at hm'
        cases hm'
        obtain ⟨v', hv', hr⟩ := hx.get hv
        refine ⟨v', ?_, hr, h1 v (List.mem_of_getElem? hv)⟩
        rw [cell_of_row W b o cur e fr hb]
        rw [List.getElem?_take] at hv'
        split at hv'
        · simpa using hv'
        · cases hv'
theorem rds_rel (R : Rel P W0 m h W) {a a' : Addr} (ha : AR W0.heap.size m a a') : ∀ (k i : Nat) (vs : List Value), rds W0 h a i k = some vs →
    ∃ vs', VRs W0.heap.size m vs vs' ∧ vs.length = k ∧ (∀ (j : Nat) v', vs'[j]? = some v' → W.cell? (a'.add (i + j)) = some v') ∧ ∀ v ∈ vs, v.oneCell' = true
  | 0, i, vs, hv => by
    simp [rds] at hv
    subst hv
    exact ⟨[], VRs.nil, rfl, fun j v' h => by simp at h, fun v h => by simp at h⟩
  | k + 1, i, vs, hv => by
    simp only [rds] at hv
    obtain ⟨v, h1, h2⟩ := Option.bind_eq_some_iff.1 hv
    obtain ⟨us, h3, rfl⟩ := Option.map_eq_some_iff.1 h2
    obtain ⟨v', hc, hr, ho⟩ := rd_rel R (ha.add i) h1
    obtain ⟨us', hu, hl, hcs, hos⟩ := rds_rel R ha k (i + 1) us h3
    refine ⟨v' :: us', VRs.cons hr hu, by simp [hl], fun j w hj => ?_, fun u hu' => ?_⟩
    · cases j with
      | zero => simp at hj; subst hj; exact hc
      | succ j =>
        simp at hj
        have := hcs j w hj
        rwa [show i + 1 + j = i + (j + 1) by omega] at this
    · rcases List.mem_cons.1 hu' with rfl | hm
      · exact ho
      · exact hos u hm

theorem heap_push_old (w : World) (o : Obj) (k : Nat) (hk : k < w.heap.size) : ({ w with heap := w.heap.push o } : World).heap[k]? = w.heap[k]? := by
  show (w.heap.push o)[k]? = _
  rw [Array.getElem?_push, if_neg (by omega)]
theorem heap_push_new (w : World) (o : Obj) : ({ w with heap := w.heap.push o } : World).heap[w.heap.size]? = some o := by
  show (w.heap.push o)[w.heap.size]? = _
  simp
/-- What the world keeps where other blocks are made or nothing but draws is done. -/
theorem Rel.grow (R : Rel P W0 m h W) {W' : World} (hos : W'.os = W.os) (ht : W'.tape = W.tape) (ho : W'.output = W.output) (hs : W.heap.size ≤ W'.heap.size) (hb : ∀ k, k < W.heap.size → W'.heap[k]? = W.heap[k]?) : Rel P W0 m h W' where
  len := R.len
  below := R.below.trans ⟨hos, ht, ho, hs, fun k hk => hb k (Nat.lt_of_lt_of_le hk R.below.size)⟩
  at_ j b c hj := ⟨(R.at_ j b c hj).1, Nat.lt_of_lt_of_le (R.at_ j b c hj).2 hs⟩
  blk j e xs hj := by
    obtain ⟨b, c, cur, fr, i, h1, h2, h3⟩ := R.blk j e xs hj
    exact ⟨b, c, cur, fr, i, h1, (hb b (R.at_ j b c h1).2).trans h2, h3⟩
  itr j s p hj := by
    obtain ⟨b, c, h1, h2⟩ := R.itr j s p hj
    exact ⟨b, c, h1, (hb b (R.at_ j b c h1).2).trans h2⟩
  inj := R.inj
theorem Rel.drew (R : Rel P W0 m h W) : Rel P W0 m h { W with drawn := W.drawn + 1 } := R.grow rfl rfl rfl (Nat.le_refl _) (fun _ _ => rfl)
theorem getElem?_snoc {α : Type} (l : List α) (x : α) (j : Nat) : (l ++ [x])[j]? = if j < l.length then l[j]? else if j = l.length then some x else none := by
  rcases Nat.lt_trichotomy j l.length with hj | hj | hj
  · rw [if_pos hj, List.getElem?_append_left hj]
  · subst hj; simp
  · rw [if_neg (by omega), if_neg (by omega)]; simp; omega
/-- A new block. -/
theorem Rel.push (R : Rel P W0 m h W) (o : Obj) (c : Nat) (x : Blk)
    (hx : ∀ e xs, x = .cells e xs → ∃ (cur : Array Value) (fr : Nat × Nat) (i : TypeInfo), o = .cells cur e fr ∧ P.info? e = some i ∧ cur.size = c * i.size ∧ c ≤ maxLen ∧ (fr.1 = fr.2 ∨ cur.size ≤ fr.1) ∧ xs.length ≤ cur.size ∧ VRs W0.heap.size m xs (cur.toList.take xs.length) ∧ ∀ v ∈ xs, v.oneCell' = true)
    (hi : ∀ s pos, x = .iter s pos → o = .stringIter s pos) :
    Rel P W0 (m ++ [(W.heap.size, c)]) (h ++ [x]) { W with heap := W.heap.push o } := by
  have R' := R.grow (W' := { W with heap := W.heap.push o }) rfl rfl rfl (by simp) (fun k hk => heap_push_old W o k hk)
  have hpre : m <+: m ++ [(W.heap.size, c)] := List.prefix_append _ _
  refine ⟨by simp [R.len], R'.below, fun j b c' hj => ?_, fun j e xs hj => ?_, fun j s p hj => ?_, fun j j' b c1 c2 hj hj' hd hd' => ?_⟩
  · rw [getElem?_snoc] at hj
    split at hj
    · exact R'.at_ j b c' hj
    · split at hj
      · cases hj
        exact ⟨R.below.size, by simp⟩
      · cases hj
  · rw [getElem?_snoc] at hj
    split at hj
    · obtain ⟨b, c', cur, fr, i, h1, h2, h3, h4, h5, h6, h7, h8, h9⟩ := R'.blk j e xs hj
      exact ⟨b, c', cur, fr, i, prefix_get hpre h1, h2, h3, h4, h5, h6, h7, h8.mono hpre, h9⟩
    · split at hj
      · rename_i he
        cases hj
        obtain ⟨cur, fr, i, rfl, h3, h4, h5, h6, h7, h8, h9⟩ := hx e xs rfl
        refine ⟨W.heap.size, c, cur, fr, i, ?_, heap_push_new W _, h3, h4, h5, h6, h7, h8.mono hpre, h9⟩
        rw [he, ← R.len]; simp
      · cases hj
  · rw [getElem?_snoc] at hj
    split at hj
    · obtain ⟨b, c', h1, h2⟩ := R'.itr j s p hj
      exact ⟨b, c', prefix_get hpre h1, h2⟩
    · split at hj
      · rename_i he
        cases hj
        obtain rfl := hi s p rfl
        refine ⟨W.heap.size, c, ?_, heap_push_new W _⟩
        rw [he, ← R.len]; simp
      · cases hj
  · rw [getElem?_snoc] at hj hj' hd hd'
    rw [R.len] at hj hj'
    by_cases h1 : j < h.length <;> by_cases h2 : j' < h.length
    · simp only [h1, h2, if_true] at hj hj' hd hd'
      exact R.inj j j' b c1 c2 hj hj' hd hd'
    · simp only [h1, h2, if_true, if_false] at hj hj'
      split at hj'
      · cases hj'
        have := (R.at_ j _ _ hj).2
        omega
      · cases hj'
    · simp only [h1, h2, if_true, if_false] at hj hj'
      split at hj
      · cases hj
        have := (R.at_ j' _ _ hj').2
        omega
      · cases hj
    · simp only [h1, h2, if_false] at hj hj'
      split at hj <;> split at hj' <;> first | omega | (simp at hj'; done) | (simp at hj; done)
/-- An own block is written: cells, its new cells. -/
theorem Rel.write2 (R : Rel P W0 m h W) {j b c : Nat} {e : TypeId} {xs xs' : List Value} {cur cur' : Array Value} {fr : Nat × Nat} (hj : h[j]? = some (.cells e xs)) (hm : m[j]? = some (b, c)) (hb : W.heap[b]? = some (.cells cur e fr)) (hs : cur'.size = cur.size)
    (hl : xs'.length ≤ cur'.size) (hx : VRs W0.heap.size m xs' (cur'.toList.take xs'.length)) (h1 : ∀ v ∈ xs', v.oneCell' = true) {W' : World}
    (hos : W'.os = W.os) (ht : W'.tape = W.tape) (ho : W'.output = W.output) (hsz : W'.heap.size = W.heap.size) (hold : ∀ k, k ≠ b → W'.heap[k]? = W.heap[k]?) {fr1 : Nat × Nat} (hfr : (fr.1 = fr.2 ∨ cur.size ≤ fr.1) → (fr1.1 = fr1.2 ∨ cur.size ≤ fr1.1)) (hnew : W'.heap[b]? = some (.cells cur' e fr1)) :
    Rel P W0 m (h.set j (.cells e xs')) W' := by
  have hjl := (List.getElem?_eq_some_iff.1 hj).1
  have hat := R.at_ j b c hm
  refine ⟨by simp [R.len], R.below.trans ⟨hos, ht, ho, by omega, fun k hk => hold k (by omega)⟩, fun j' b' c' hj' => ?_, fun j' e' ys hj' => ?_, fun j' s p hj' => ?_, fun j1 j2 b' c1 c2 h1' h2' hd hd' => ?_⟩
  · rw [hsz]; exact R.at_ j' b' c' hj'
  · rw [List.getElem?_set] at hj'
    by_cases he : j = j'
    · subst he
      simp only [if_true, hjl] at hj'
      cases hj'
      obtain ⟨b2, c2, cur2, fr2, i, g1, g2, g3, g4, g5, g6, g7, g8, g9⟩ := R.blk j e xs hj
      rw [hm] at g1; cases g1
      rw [hb] at g2; cases g2
      exact ⟨b, c, cur', fr1, i, hm, hnew, g3, by rw [hs]; exact g4, g5, by rw [hs]; exact hfr g6, hl, hx, h1⟩
    · simp only [he, if_false] at hj'
      obtain ⟨b2, c2, cur2, fr2, i, g1, g2, g3⟩ := R.blk j' e' ys hj'
      refine ⟨b2, c2, cur2, fr2, i, g1, (hold b2 ?_).trans g2, g3⟩
      rintro rfl
      exact he (R.inj j j' b2 c c2 hm g1 ⟨_, hj, by simp⟩ ⟨_, hj', by simp⟩)
  · rw [List.getElem?_set] at hj'
    by_cases he : j = j'
    · subst he
      simp only [if_true, hjl] at hj'
      cases hj'
    · simp only [he, if_false] at hj'
      obtain ⟨b2, c2, g1, g2⟩ := R.itr j' s p hj'
      refine ⟨b2, c2, g1, (hold b2 ?_).trans g2⟩
      rintro rfl
      exact he (R.inj j j' b2 c c2 hm g1 ⟨_, hj, by simp⟩ ⟨_, hj', by simp⟩)
  · have key : ∀ k : Nat, (∃ x, (h.set j (.cells e xs'))[k]? = some x ∧ x ≠ .dead) → ∃ x, h[k]? = some x ∧ x ≠ .dead := by
      rintro k ⟨x, hx, hne⟩
      rw [List.getElem?_set] at hx
      by_cases he : j = k
      · subst he; exact ⟨_, hj, by simp⟩
      · simp only [he, if_false] at hx; exact ⟨x, hx, hne⟩
    exact R.inj j1 j2 b' c1 c2 h1' h2' (key _ hd) (key _ hd')
theorem Rel.write (R : Rel P W0 m h W) {j b c : Nat} {e : TypeId} {xs xs' : List Value} {cur cur' : Array Value} {fr : Nat × Nat} (hj : h[j]? = some (.cells e xs)) (hm : m[j]? = some (b, c)) (hb : W.heap[b]? = some (.cells cur e fr)) (hs : cur'.size = cur.size)
    (hl : xs'.length ≤ cur'.size) (hx : VRs W0.heap.size m xs' (cur'.toList.take xs'.length)) (h1 : ∀ v ∈ xs', v.oneCell' = true) {W' : World}
    (hos : W'.os = W.os) (ht : W'.tape = W.tape) (ho : W'.output = W.output) (hsz : W'.heap.size = W.heap.size) (hold : ∀ k, k ≠ b → W'.heap[k]? = W.heap[k]?) (hnew : W'.heap[b]? = some (.cells cur' e fr)) :
    Rel P W0 m (h.set j (.cells e xs')) W' := R.write2 hj hm hb hs hl hx h1 hos ht ho hsz hold (fun h => h) hnew
/-- A block is given up. -/
theorem Rel.kill (R : Rel P W0 m h W) (j : Nat) : Rel P W0 m (h.set j .dead) W where
  len := by simp [R.len]
  below := R.below
  at_ := R.at_
  blk j' e xs hj' := by
    rw [List.getElem?_set] at hj'
    by_cases he : j = j'
    · subst he; simp only [if_true] at hj'; split at hj' <;> cases hj'
    · simp only [he, if_false] at hj'; exact R.blk j' e xs hj'
  itr j' s p hj' := by
    rw [List.getElem?_set] at hj'
    by_cases he : j = j'
    · subst he; simp only [if_true] at hj'; split at hj' <;> cases hj'
    · simp only [he, if_false] at hj'; exact R.itr j' s p hj'
  inj j1 j2 b c1 c2 h1 h2 hd hd' := by
    have key : ∀ k : Nat, (∃ x, (h.set j .dead)[k]? = some x ∧ x ≠ .dead) → ∃ x, h[k]? = some x ∧ x ≠ .dead := by
      rintro k ⟨x, hx, hne⟩
      rw [List.getElem?_set] at hx
      by_cases he : j = k
      · subst he
        simp only [if_true] at hx
        split at hx
        · cases hx; exact absurd rfl hne
        · cases hx
      · simp only [he, if_false] at hx; exact ⟨x, hx, hne⟩
    exact R.inj j1 j2 b c1 c2 h1 h2 (key _ hd) (key _ hd')
end
end Go.Proofs.AbM
