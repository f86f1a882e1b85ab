/- slices.Chunk over a row of bytes, told of the worlds. -/
import Derived.Test.YtbmidddpddiopaaDoorProg
import Derived.Test.YtbmidddpddiopaaDoorAbV17
import Derived.Test.YtbmidddpddiopaaDoorAbFacts
import Derived.RangeFuncBox
import Derived.RangeFuncLeaves
import Derived.RangeFuncNested
import Derived.Shelf.Abstract
import Derived.WalkKit
import Derived.OwnWalkIn
import Derived.TacticsInMore
import Derived.LoopNIn
import Derived.LoopIn
import Derived.Maps.AppendAt
import Derived.Stop.RegionWithIn
set_option linter.unusedVariables false
set_option linter.unusedSimpArgs false
set_option maxRecDepth 100000
set_option maxHeartbeats 2000000
namespace Go.Proofs.YtbmidddpddiopaaDoor.VChunk
open Go.RowKit Go.Shelf
attribute [local go_sem] Oper.semAt_some
/-- what has come when k rounds are over -/
def upto {α : Type} (f : Nat → α) (k : Nat) : List α := (List.range k).map f
theorem upto_succ {α : Type} (f : Nat → α) (k : Nat) : upto f (k + 1) = upto f k ++ [f k] := by simp [upto, List.range_succ]
theorem upto_length {α : Type} (f : Nat → α) (k : Nat) : (upto f k).length = k := by simp [upto]
/-- how many rounds -/
def rounds (len size : Nat) : Nat := (len + size - 1) / size
theorem chunk_in (F : Fence) (n : Nat) (h5 : F.fn 20) (hro : F.round = none) (a : Option Addr) (len cap : Nat) (size : Int) (hs : 1 ≤ size) (w : World) :
    CallsIn F n Tryd.prog 20 #[.slice a len cap, .int .i64 size] w fun e w' => e = .returned (.func (.func 24) #[] #[.pointer (some ⟨w.heap.size, 0, none⟩), .pointer (some ⟨w.heap.size + 1, 0, none⟩)]) ∧ w' = (w.alloc (.cells #[.slice a len cap] 23)).alloc (.cells #[.int .i64 size] 3) := by
  refine callsIn_of_wp Tryd.func20 rfl h5 ?_ hro
  simp only [Tryd.ntmps20, List.size_toArray, List.length_cons, List.length_nil, Nat.reduceAdd, Nat.reduceSub, Array.replicate_succ, Array.replicate_zero, List.push_toArray, List.append_toArray, List.nil_append, List.cons_append]
  gi_wp2
  go_ret
  exact ⟨rfl, rfl⟩
theorem rounds_lt {len sz k : Nat} (hs : 1 ≤ sz) : k < rounds len sz ↔ k * sz < len := by
  unfold rounds
  rw [Nat.lt_iff_add_one_le, Nat.le_div_iff_mul_le (by omega), Nat.add_mul, Nat.one_mul]
  omega
/-- A part of a row of bytes, as it is handed out. -/
def partV (ad : Addr) (len sz st : Nat) : Value := if st < len then .slice (some (ad.add st)) (min sz (len - st)) (min sz (len - st)) else .slice none 0 0
/-- The two boxes of an iterator lie as they lay. -/
def KB (i j : Nat) (W W' : World) : Prop := W'.heap[i]? = W.heap[i]? ∧ W'.heap[j]? = W.heap[j]?
theorem KB.refl (i j : Nat) (W : World) : KB i j W W := ⟨rfl, rfl⟩
theorem KB.trans {i j : Nat} {A B C : World} (h : KB i j A B) (k : KB i j B C) : KB i j A C := ⟨k.1.trans h.1, k.2.trans h.2⟩
theorem KB.c1 {i j : Nat} {A B : World} (h : KB i j A B) : B.cell? ⟨i, 0, none⟩ = A.cell? ⟨i, 0, none⟩ := World.cell?_of_block h.1
theorem KB.c2 {i j : Nat} {A B : World} (h : KB i j A B) : B.cell? ⟨j, 0, none⟩ = A.cell? ⟨j, 0, none⟩ := World.cell?_of_block h.2
theorem kb_b {i j : Nat} {w : World} (hi : i < w.heap.size) (hj : j < w.heap.size) (W : World) (l : Nat) (o o' : Obj) (hl : w.heap.size ≤ l) (h : W.heap[l]? = some o) (_ : o.isCells = false) (_ : o.isWalk = false) : KB i j W (W.putObj l o') :=
  ⟨World.putObj_heap_other (by omega), World.putObj_heap_other (by omega)⟩
theorem chunk1_in (F : Fence) (n : Nat) (h7 : F.fn 24) (hro : F.round = none) (hn : 1 ≤ n) (l Bs Bn len cap sz : Nat) (ad : Addr) (hs : 1 ≤ sz) (hs2 : sz < 9223372036854775808) (hlen : len ≤ 140737488355328) (hcap : len ≤ cap) (J Jx : List Nat → World → Prop) (hJd : ∀ pre W, J pre W → J pre W.drew)
    (hY : ∀ pre x W, J pre W → pre.length < rounds len sz → YieldAt F (n - 1) Tryd.prog l #[partV ad len sz x] W fun e W' =>
      (e = .returned (.bool true) ∧ J (pre ++ [x]) W' ∧ KB Bs Bn W W') ∨ (e = .returned (.bool false) ∧ Jx (pre ++ [x]) W'))
    (W : World) (hBs : W.cell? ⟨Bs, 0, none⟩ = some (.slice (some ad) len cap)) (hBn : W.cell? ⟨Bn, 0, none⟩ = some (.int .i64 sz)) (h0 : J [] W) :
    CallsIn F n Tryd.prog 24 #[.func (.yield l) #[] #[], .pointer (some ⟨Bs, 0, none⟩), .pointer (some ⟨Bn, 0, none⟩)] W fun e W' => (∃ v, e = .returned v) ∧
      ((∃ ys, ys = upto (fun k => k * sz) (rounds len sz) ∧ J ys W') ∨ (∃ pre, (∃ k, k ≤ rounds len sz ∧ pre = upto (fun k => k * sz) k) ∧ Jx pre W')) := by
  refine callsIn_of_wp Tryd.func24 rfl h7 ?_ hro
  simp only [Tryd.ntmps24, List.size_toArray, List.length_cons, List.length_nil, Nat.reduceAdd, Nat.reduceSub, Array.replicate_succ, Array.replicate_zero, List.push_toArray, List.append_toArray, List.nil_append, List.cons_append]
  gi_wp2
  gi_loopw [4] (fun i wr => ∃ k : Nat, k ≤ rounds len sz ∧ i = .int .i64 (k * sz : Nat) ∧ J (upto (fun k => k * sz) k) wr ∧ KB Bs Bn W wr)
    (fun i _ => 9223372036854775808 - (intOf i).toNat)
  case atStart => exact ⟨0, Nat.zero_le _, by simp, h0, KB.refl _ _ _⟩
  case round =>
    obtain ⟨k, hk, rfl, hJs, hnx⟩ := hrel
    have hc1 : wr.cell? ⟨Bs, 0, none⟩ = some (.slice (some ad) len cap) := hnx.c1.trans hBs
    have hc2 : wr.cell? ⟨Bn, 0, none⟩ = some (.int .i64 sz) := hnx.c2.trans hBn
    by_cases hlt : k * sz < len
    · obtain ⟨fn, tmps, assign, body, hy, hR⟩ := hY _ (k * sz) wr.drew (hJd _ _ hJs) (by rw [upto_length]; exact (rounds_lt hs).2 hlt)
      have hks : k * sz = 0 ∨ sz ≤ k * sz := by
        cases k with
        | zero => exact .inl (Nat.zero_mul _)
        | succ k => right; rw [Nat.add_mul, Nat.one_mul]; omega
      have hk1 := (rounds_lt hs).2 hlt
      have hks2 : (k + 1) * sz = k * sz + sz := by rw [Nat.add_mul, Nat.one_mul]
      unfold partV at hy
      rw [if_pos hlt] at hy
      generalize hst : k * sz = st at *
      have hJd1 := hJd _ _ hJs
      have hnd : KB Bs Bn W wr.drew := hnx
      have hc3 : wr.drew.cell? ⟨Bs, 0, none⟩ = some (.slice (some ad) len cap) := hc1
      have hc4 : wr.drew.cell? ⟨Bn, 0, none⟩ = some (.int .i64 sz) := hc2
      have hmin : (if len - st < sz then ((len - st : Nat) : Int) else (sz : Int)) = ((min sz (len - st) : Nat) : Int) := by split <;> omega
      have hen : 1 ≤ min sz (len - st) ∧ min sz (len - st) ≤ len - st := by omega
      have hsum : st + sz < 9223372036854775808 := by omega
      gi_wp2
      refine wpIn_mono (Q := fun e a' w' => e = .normal ∧ w' = wr.drew ∧ a' = { tmps := #[Value.func (Fn.yield l) #[] #[], Value.pointer (some { block := Bs, off := 0 }), Value.pointer (some { block := Bn, off := 0 }), undef, Value.int IntKind.i64 ↑st, Value.int IntKind.i64 ↑(min sz (len - st)), Value.int IntKind.i64 ↑st, Value.slice (some ad) len cap, Value.int IntKind.i64 ↑len, Value.bool true, u10, u11, u12, Value.int IntKind.i64 ↑sz, Value.slice (some ad) len cap, Value.int IntKind.i64 ↑st, Value.slice (some (ad.add st)) (len - st) (cap - st), Value.int IntKind.i64 ↑(len - st), Value.int IntKind.i64 ↑(min sz (len - st)), u19, u20, u21, u22, u23, u24, u25, u26, u27, u28, u29, u30], defers := [] }) ?_ ?_
      · gi_region
        all_goals exact ⟨rfl, rfl, by simp [hmin]⟩
      rintro _ _ _ ⟨rfl, rfl, rfl⟩
      generalize min sz (len - st) = en at *
      gi_wp2
      refine hR.mono ?_
      rintro e W3 (⟨rfl, hJ3, hk3⟩ | ⟨rfl, hJx3⟩)
      · have hc5 : W3.cell? ⟨Bn, 0, none⟩ = some (.int .i64 sz) := hk3.c2.trans hc4
        gi_wp2
        go_roundw
        case rel => exact ⟨k + 1, hk1, by rw [hks2, Int.natCast_add], by rw [upto_succ]; simp only [hst]; exact hJ3, hnd.trans hk3⟩
        case measure => simp only [intOf]; omega
      · gi_wp2
        refine bodyPost_ret (results_none rfl _ _ _) rfl ?_
        exact ⟨⟨_, rfl⟩, .inr ⟨_, ⟨k + 1, by omega, (upto_succ _ _).symm⟩, by rw [← hst] at hJx3; exact hJx3⟩⟩
    · obtain rfl : k = rounds len sz := by
        have := mt (rounds_lt (len := len) (k := k) hs).1 hlt
        omega
      gi_wp2
      go_end0
      exact ⟨⟨_, rfl⟩, .inl ⟨_, rfl, hJs⟩⟩
theorem chunk1_nil_in (F : Fence) (n : Nat) (h7 : F.fn 24) (hro : F.round = none) (l Bs Bn cap : Nat) (a : Option Addr) (J : List Nat → World → Prop)
    (W : World) (hBs : W.cell? ⟨Bs, 0, none⟩ = some (.slice a 0 cap)) (h0 : J [] W) :
    CallsIn F n Tryd.prog 24 #[.func (.yield l) #[] #[], .pointer (some ⟨Bs, 0, none⟩), .pointer (some ⟨Bn, 0, none⟩)] W fun e W' => (∃ v, e = .returned v) ∧ J [] W' := by
  refine callsIn_of_wp Tryd.func24 rfl h7 ?_ hro
  simp only [Tryd.ntmps24, List.size_toArray, List.length_cons, List.length_nil, Nat.reduceAdd, Nat.reduceSub, Array.replicate_succ, Array.replicate_zero, List.push_toArray, List.append_toArray, List.nil_append, List.cons_append]
  gi_wp2
  gi_loopw [4] (fun i wr => i = .int .i64 0 ∧ wr.cell? ⟨Bs, 0, none⟩ = some (.slice a 0 cap) ∧ J [] wr) (fun _ _ => 0)
  case atStart => exact ⟨rfl, hBs, h0⟩
  case round =>
    obtain ⟨rfl, hc, hJs⟩ := hrel
    gi_wp2
    go_end0
    exact ⟨⟨_, rfl⟩, hJs⟩
/-- The value that is ranged over. -/
def partsV (a : Option Addr) (len sz st : Nat) : Value := match a with | some ad => partV ad len sz st | none => .slice none 0 0
theorem chunk_stops (F : Fence) (n : Nat) (h7 : F.fn 24) (hro : F.round = none) (hn : 1 ≤ n) (Bs Bn len cap sz : Nat) (a : Option Addr) (hs : 1 ≤ sz) (hs2 : sz < 9223372036854775808) (hlen : len ≤ 140737488355328) (hcap : len ≤ cap) (ha : a = none → len = 0) (w : World) (hBs0 : Bs < w.heap.size) (hBn0 : Bn < w.heap.size)
    (hc1 : w.cell? ⟨Bs, 0, none⟩ = some (.slice a len cap)) (hc2 : w.cell? ⟨Bn, 0, none⟩ = some (.int .i64 sz)) :
    SeqStopsK F n Tryd.prog 24 #[.pointer (some ⟨Bs, 0, none⟩), .pointer (some ⟨Bn, 0, none⟩)] (fun x : Nat => #[partsV a len sz x]) (KB Bs Bn) (fun ys => ys = upto (fun k => k * sz) (rounds len sz)) (fun pre => ∃ k, k ≤ rounds len sz ∧ pre = upto (fun k => k * sz) k) (rounds len sz) w := fun l J Jx W hW hJ hJx hY h0 => by
  have hc1' := (hW.cell (p := ⟨Bs, 0, none⟩) hBs0).trans hc1
  have hc2' := (hW.cell (p := ⟨Bn, 0, none⟩) hBn0).trans hc2
  cases a with
  | some ad =>
    exact chunk1_in F n h7 hro hn l Bs Bn len cap sz ad hs hs2 hlen hcap J Jx (fun pre W hj => hJ pre W W.drew none hj ⟨rfl, rfl, rfl, Nat.le_refl _, fun _ _ _ => rfl⟩ (fun r e => by cases e)) hY W hc1' hc2' h0
  | none =>
    have := ha rfl
    subst this
    have hr : rounds 0 sz = 0 := by
      have := (rounds_lt (len := 0) (k := 0) hs)
      omega
    refine (chunk1_nil_in F n h7 hro l Bs Bn cap none J W hc1' h0).mono fun e W' ⟨he, hj⟩ => ⟨he, .inl ⟨_, by rw [hr], ?_⟩⟩
    exact hj
end Go.Proofs.YtbmidddpddiopaaDoor.VChunk
