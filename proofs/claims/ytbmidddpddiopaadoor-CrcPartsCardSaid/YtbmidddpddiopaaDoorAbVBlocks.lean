/- crc.Blocks, told of the worlds. -/
import Derived.Test.YtbmidddpddiopaaDoorProg
import Derived.Test.YtbmidddpddiopaaDoorAbV17
import Derived.Test.YtbmidddpddiopaaDoorAbFacts
import Derived.Test.YtbmidddpddiopaaDoorAbVChunk
import Derived.RangeFuncBox
import Derived.RangeFuncLeaves
import Derived.RangeFuncNested
import Derived.Shelf.Abstract
import Derived.WalkKit
import Derived.OwnWalkIn
import Derived.TacticsInMore
import Derived.LoopNIn
import Derived.LoopIn
import Derived.Maps.AppendAt
import Derived.Stop.RegionWithIn
set_option linter.unusedVariables false
set_option linter.unusedSimpArgs false
set_option maxRecDepth 100000
set_option maxHeartbeats 2000000
namespace Go.Proofs.YtbmidddpddiopaaDoor.VBlocks
open Go.RowKit Go.Shelf Go.Proofs.YtbmidddpddiopaaDoor.VChunk
attribute [local go_sem] Oper.semAt_some
theorem infoU32 : (Tryd.prog.info? 22).map (fun i => (i.zero, i.size, i.bytes)) = some (some (.int .u32 0), 1, 4) := by kernel_rfl
theorem below_grown {w w' : World} (h : Below w.heap.size w w') : w.grownBy w' none := ⟨h.os, h.tape, h.output, h.size, fun k hk _ => h.block k hk⟩
theorem below_keeps {w w' : World} (h : Below w.heap.size w w') : KeepsOthers w w' := ⟨h.size, fun k o hk _ => (h.block k (Array.getElem?_eq_some_iff.1 hk).1).trans hk⟩
theorem ownsRow_low {W : World} {b c : Nat} (hb : b ≤ c) {e : TypeId} {size : Nat} {v : Value} {k : Nat} {xs : List Value} (h : W.ownsRow c e size v k xs) : W.ownsRow b e size v k xs :=
  ⟨h.1, h.2.imp id fun ⟨g, cap, cur, hv, hg, r⟩ => ⟨g, cap, cur, hv, Nat.le_trans hb hg, r⟩⟩
theorem op_append_own {F : Fence} {n : Nat} {P : Program} (w : World) {o : Oper} {a : Act} {K : Act → World → Prop} {Q : Exit → Act → World → Prop}
    (hg : o.guard = none) (s x : Operand) (t : TypeId) (hop : o.op = Op.call { callee := Callee.builtin Builtin.append, args := #[s, x], argTypes := #[t, t] })
    (base : Nat) (e : TypeId) (i : TypeInfo) (z : Value) (size bytes : Nat) (h1 : P.underlying t = some (.slice e)) (h2 : P.info? e = some i) (h3 : i.zero = some z) (h4 : i.size = size) (h5 : i.bytes = bytes) (h6 : z.cells.size = size) (h7 : 0 < size)
    (v : Value) (k : Nat) (xs : List Value) (hs : a.eval s = v) (hown : w.ownsRow base e size v k xs) (ad : Addr) (m c : Nat) (news : List Value) (hx : a.eval x = .slice (some ad) m c) (hn : news.length = m * size)
    (hc : ∀ j u, news[j]? = some u → w.cell? (ad.add j) = some u) (h1c : ∀ u ∈ news, u.oneCell' = true) (b1 : k + m ≤ maxLen) (b2 : (k + m) * bytes ≤ 140737488355328) (b3 : base ≤ w.heap.size)
    (hK : ∀ v' w', w'.ownsRow base e size v' (k + m) (xs ++ news) → w.grownBy w' v.ownBlock → (v' = .slice none 0 0 ↔ v = .slice none 0 0 ∧ m = 0) → K (a.put o.dst v') w') :
    Oper.wpIn F n P o a w K Q := by
  obtain ⟨v', w', hrun, r1, r2, r3⟩ := run_append_own (P := P) w base t o.type e i z size bytes h1 h2 h3 h4 h5 h6 h7 v k xs hown ad m c news hn hc h1c b1 b2 b3
  unfold Oper.wpIn
  refine ⟨?_, ?_⟩
  · simp [Oper.about, hop, resolve, Target.leads, Sem.run_pure]
  · rw [Oper.semAt_plain F _ _ (by rw [hop]; intro c hc'; cases hc')]
    simp [execOp, hop, resolve, invoke, builtin, hs, hx, hrun, Result.andThen]
    exact hK v' w' r1 r2 r3
theorem blocks_call {w W W1 W2 : World} {v : Value} {k : Nat} {xs : List Value} (hsz0 : w.heap.size + 1 + 1 + 1 ≤ W.heap.size) (hv1 : Boxed W1 w.heap.size 28 v) (hrow1 : W1.ownsRow (w.heap.size + 1 + 1 + 1) 22 1 v k xs)
    (hbel : Below W.heap.size W W1) (hB1 : Below w.heap.size w W1) (hB2 : Below W1.heap.size W1 W2) :
    Boxed W2 w.heap.size 28 v ∧ W2.ownsRow (w.heap.size + 1 + 1 + 1) 22 1 v k xs ∧ Below W.heap.size W W2 ∧ W2.cell? ⟨w.heap.size, 0, none⟩ = some v ∧ Below w.heap.size w W2 := by
  have hg := below_grown hB2
  have hv2 := hv1.kept hg (by simp)
  refine ⟨hv2, hrow1.kept hg ?_, hbel.trans (hB2.mono hbel.size), hv2.cell, hB1.trans (hB2.mono hB1.size)⟩
  rcases hrow1.2 with ⟨rfl, _⟩ | ⟨g, cap, cur, rfl, _⟩
  · exact .inl rfl
  · exact .inr (by simp [Value.ownBlock])
theorem blocks_end {w W W2 w1 : World} {v v' : Value} {k m : Nat} {xs ys : List Value} {tmp : Obj} (hsz0 : w.heap.size + 1 + 1 + 1 ≤ W.heap.size) (hv2 : Boxed W2 w.heap.size 28 v) (hrow2 : W2.ownsRow (w.heap.size + 1 + 1 + 1) 22 1 v k xs)
    (hbel : Below W.heap.size W W2) (hB2 : Below w.heap.size w W2) (hown : w1.ownsRow (w.heap.size + 1 + 1 + 1) 22 1 v' m ys) (hgrow : (W2.alloc tmp).grownBy w1 v.ownBlock) :
    w1.cell? ⟨w.heap.size, 0, none⟩ = some v ∧ w1.frozen? ⟨w.heap.size, 0, none⟩ = false ∧
      KeepsOthers W (w1.setCell ⟨w.heap.size, 0, none⟩ v') ∧ KB (w.heap.size + 1) (w.heap.size + 1 + 1) W (w1.setCell ⟨w.heap.size, 0, none⟩ v') ∧
      Boxed (w1.setCell ⟨w.heap.size, 0, none⟩ v') w.heap.size 28 v' ∧ (w1.setCell ⟨w.heap.size, 0, none⟩ v').ownsRow (w.heap.size + 1 + 1 + 1) 22 1 v' m ys ∧ Below w.heap.size w (w1.setCell ⟨w.heap.size, 0, none⟩ v') ∧ w.heap.size + 1 + 1 + 1 ≤ (w1.setCell ⟨w.heap.size, 0, none⟩ v').heap.size := by
  obtain ⟨hv1, hv3, hr3, hk3, hb3⟩ := hv2.appended (by decide) (ownsRow_low (b := w.heap.size) (by omega) hrow2) hB2.size (Nat.le_refl _) (ownsRow_low (b := w.heap.size) (by omega) hown) hgrow
  have hs : (w1.setCell ⟨w.heap.size, 0, none⟩ v').heap.size = w1.heap.size := by simp [World.setCell]
  have hgs := hgrow.size
  simp at hgs
  have hbs := hbel.size
  have hkb : ∀ i, w.heap.size < i → i < w.heap.size + 1 + 1 + 1 → (w1.setCell ⟨w.heap.size, 0, none⟩ v').heap[i]? = W.heap[i]? := by
    intro i h1 h2
    rw [Below.heap_setCell _ _ _ i (by intro e; simp at e; omega), hgrow.block i (by simp; omega) ?_, Below.heap_alloc _ _ _ (by omega), hbel.block i (by omega)]
    rcases hrow2.2 with ⟨rfl, _⟩ | ⟨g, cap, cur, rfl, hg, _⟩
    · simp [Value.ownBlock]
    · simp [Value.ownBlock]; omega
  refine ⟨hv1.cell, hv1.frozen, (below_keeps hbel).trans hk3, ⟨hkb _ (by omega) (by omega), hkb _ (by omega) (by omega)⟩, hv3, ?_, hB2.trans hb3, by omega⟩
  refine hown.kept (grownBy_setCell' w1 w.heap.size v') (.inr (hv1.not_row (by decide) hown).symm)
theorem blocks_w (w : World) (a : Option Addr) (len cap sz : Nat) (f : Nat → Nat) (hs : 1 ≤ sz) (hs2 : sz < 9223372036854775808) (hlen : len ≤ 1048576) (hcap : len ≤ cap) (ha : a = none → len = 0)
    (hS : ∀ (W : World), Below w.heap.size w W → ∀ st, Calls Tryd.prog 11 #[partsV a len sz st] W fun e W' => e = .returned (.int .u32 (f st : Nat)) ∧ Below W.heap.size W W') :
    Calls Tryd.prog 14 #[.slice a len cap, .int .i64 sz] w fun e W' => ∃ v, e = .returned v ∧ W'.ownsRow w.heap.size 22 1 v (rounds len sz) ((upto (fun k => k * sz) (rounds len sz)).map fun st => .int .u32 (f st : Nat)) ∧ (v = .slice none 0 0 ↔ rounds len sz = 0) ∧ Below w.heap.size w W' := by
  have hro : Fence.wide.round = none := rfl
  have h1 : 1 ≤ 4 := by omega
  obtain ⟨i0, hi, hz0, hz1, hz2⟩ := info_parts infoU32
  refine (callsIn_wide (n := 4)).1 ?_
  refine callsIn_of_wp_marks Tryd.func14 rfl trivial ?_ hro
  simp only [Tryd.ntmps14, List.size_toArray, List.length_cons, List.length_nil, Nat.reduceAdd, Nat.reduceSub, Array.replicate_succ, Array.replicate_zero, List.push_toArray, List.append_toArray, List.nil_append, List.cons_append]
  gi_wp2_with (refine ⟨trivial, ?_⟩; gi_at_call 20; refine (chunk_in Fence.wide (4 - 1) trivial hro a len cap sz (by omega) _).mono ?_; rintro e w' ⟨rfl, rfl⟩)
  have bO := Boxed.new w 28 (.slice none 0 0)
  have bS := Boxed.new (w.alloc (.cells #[.slice none 0 0] 28)) 23 (.slice a len cap)
  have bN := Boxed.new ((w.alloc (.cells #[.slice none 0 0] 28)).alloc (.cells #[.slice a len cap] 23)) 3 (.int .i64 sz)
  rw [World.size_alloc] at bS
  rw [World.size_alloc, World.size_alloc] at bN
  have hB0 : Below w.heap.size w (((w.alloc (.cells #[.slice none 0 0] 28)).alloc (.cells #[.slice a len cap] 23)).alloc (.cells #[.int .i64 sz] 3)) := (((Below.refl _ w).alloc (Nat.le_refl _) _).alloc (by simp) _).alloc (by simp; omega) _
  have hrl : rounds len sz ≤ len := by
    unfold rounds
    rw [Nat.div_le_iff_le_mul_add_pred (by omega)]
    have := Nat.mul_le_mul_right len hs
    omega
  refine wpIn_rangeFunc_ownG hro h1 (gf := 24) (lb := #[.pointer (some ⟨w.heap.size + 1, 0, none⟩), .pointer (some ⟨w.heap.size + 1 + 1, 0, none⟩)]) rfl trivial (enters_of Tryd.func24 (by kernel_rfl) rfl)
    (chunk_stops Fence.wide (4 - 1) trivial hro (by omega) (w.heap.size + 1) (w.heap.size + 1 + 1) len cap sz a hs hs2 (by omega) hcap ha _ (by simp) (by simp) ((bS.alloc _).cell) bN.cell) KB.trans (kb_b (by simp) (by simp)) (Below.refl _ _) (fun _ => rfl)
    (fun pre W => (∃ v, Boxed W w.heap.size 28 v ∧ W.ownsRow (w.heap.size + 1 + 1 + 1) 22 1 v pre.length (pre.map fun st => .int .u32 (f st : Nat)) ∧ (v = .slice none 0 0 ↔ pre = [])) ∧ Below w.heap.size w W ∧ w.heap.size + 1 + 1 + 1 ≤ W.heap.size)
    (fun _ _ _ => False)
    (OwnFrom.and (Own.from (holdsRow_own (w.heap.size + 1 + 1 + 1) w.heap.size 28 22 1 (fun pre => pre.length) (fun pre => pre.map fun st => .int .u32 (f st : Nat)) (fun pre v => v = .slice none 0 0 ↔ pre = [])) _) (OwnFrom.and (ownFrom_below (Nat.le_refl _) (by simp; omega)) (fun _ _ _ _ h hg _ => Nat.le_trans h hg.size)))
    (fun _ _ _ _ _ hs _ _ => hs)
    ⟨⟨_, (bO.alloc _).alloc _, World.ownsRow_nil _ _ _ _, by simp⟩, hB0, by simp⟩
    (fun x => { tmps := #[.slice a len cap, .int .i64 sz, undef, undef, .slice none 0 0, .pointer (some ⟨w.heap.size, 0, none⟩), partsV a len sz x, .int .i64 sz, .bool (decide ((sz : Int) < 1)), .slice a len cap, .int .i64 sz, .func (.func 24) #[] #[.pointer (some ⟨w.heap.size + 1, 0, none⟩), .pointer (some ⟨w.heap.size + 1 + 1, 0, none⟩)], partsV a len sz x, undef, undef, undef, undef, undef, undef], defers := [] }) ?assign ?body ?done ?stop
  case assign =>
    intro l x W K hK
    gi_wp2
    exact hK
  case body =>
    rintro l pre x W ⟨⟨v, hv, hrow, hnil⟩, hB, hS3⟩ hlt
    have hc := hv.cell
    have hmx : Tryd.prog.follows .mixedOrders = true := by kernel_rfl
    gi_wp2
    refine wpIn_region_any (by kernel_rfl) ?_
    change wpAnyIn _ _ _ _ _ _ _ _ _ (World.drew _)
    have hrl2 : pre.length ≤ 1048576 := by omega
    have hsz0 : w.heap.size + 1 + 1 + 1 ≤ W.heap.size := hS3
    have hbel : Below W.heap.size W W.drew := (Below.refl _ _).drew
    obtain ⟨W1, hW1⟩ : ∃ W1, W.drew = W1 := ⟨_, rfl⟩
    rw [hW1] at hbel ⊢
    have hc1 : W1.cell? ⟨w.heap.size, 0, none⟩ = some v := by rw [← hW1]; exact hc
    have hB1 : Below w.heap.size w W1 := by rw [← hW1]; exact hB.drew
    have hv1 : Boxed W1 w.heap.size 28 v := by rw [← hW1]; exact hv
    have hrow1 : W1.ownsRow (w.heap.size + 1 + 1 + 1) 22 1 v pre.length (pre.map fun st => .int .u32 (f st : Nat)) := by rw [← hW1]; exact hrow
    clear hW1
    -- ORDERS
    refine wpAnyIn_ready (rs := [0, 1]) (by kernel_rfl) (by simp) ?_
    refine AllReadyIn.cons rfl (fun K hK => (if_pos rfl).mpr ?_) (AllReadyIn.cons rfl (fun K hK => (if_pos rfl).mpr ?_) (AllReadyIn.nil))
    · skip
      go_simp
      refine hK _ _ ?_
      clear hK K
      refine wpAnyIn_ready (rs := [1]) (by kernel_rfl) (by simp) ?_
      refine AllReadyIn.cons rfl (fun K hK => (if_pos rfl).mpr ?_) (AllReadyIn.nil)
      go_simp
      refine hK _ _ ?_
      clear hK K
      refine wpAnyIn_ready (rs := [2]) (by kernel_rfl) (by simp) ?_
      refine AllReadyIn.cons rfl (fun K hK => (if_pos rfl).mpr ?_) (AllReadyIn.nil)
      go_simp
      refine ⟨trivial, ?_⟩
      refine (CallsIn.inRound l ((callsIn_wide (n := 4 - 1 - 1 - 1)).2 (hS W1 hB1 x))).mono ?_
      rintro e W2 ⟨rfl, hB2⟩
      dsimp only
      obtain ⟨hv2, hrow2, hbel2, hc2, hBw2⟩ := blocks_call hsz0 hv1 hrow1 hbel hB1 hB2
      clear hc1
      have hc3 := fun o => (hv2.alloc o).cell
      refine hK _ _ ?_
      clear hK K
      refine wpAnyIn_ready (rs := [3]) (by kernel_rfl) (by simp) ?_
      refine AllReadyIn.cons rfl (fun K hK => (if_pos rfl).mpr ?_) (AllReadyIn.nil)
      go_simp
      refine hK _ _ ?_
      clear hK K
      refine wpAnyIn_ready (rs := [4]) (by kernel_rfl) (by simp) ?_
      refine AllReadyIn.cons rfl (fun K hK => (if_pos rfl).mpr ?_) (AllReadyIn.nil)
      refine op_append_own _ rfl _ _ 28 rfl (w.heap.size + 1 + 1 + 1) 22 i0 (.int .u32 0) 1 4 Tryd.underlying28 hi hz0 hz1 hz2 rfl (by decide) _ _ _ rfl (hrow2.alloc _) ⟨W2.heap.size, 0, none⟩ 1 1 [.int .u32 (f x : Nat)] rfl rfl (cell_one_new _ _ _) (by simp [Value.oneCell']) (by simp only [maxLen]; omega) (by omega) (by have := hbel2.size; simp; omega) ?_
      intro v' w1 hown' hgrow hnil'
      obtain ⟨g', cap', rfl⟩ := ownsRow_succ hown'
      obtain ⟨hcw, hfw, hE1, hE2, hE3, hE4, hE5, hE6⟩ := blocks_end hsz0 hv2 hrow2 hbel2 hBw2 hown' hgrow
      refine hK _ _ ?_
      clear hK K
      refine wpAnyIn_ready (rs := [5]) (by kernel_rfl) (by simp) ?_
      refine AllReadyIn.cons rfl (fun K hK => (if_pos rfl).mpr ?_) (AllReadyIn.nil)
      go_simp
      refine hK _ _ ?_
      clear hK K
      refine wpAnyIn_done (by kernel_rfl) ?_ _
      exact ⟨hE1.from _, hE2, ⟨_, hE3, by rw [List.length_append, List.map_append]; exact hE4, by simp⟩, hE5, hE6⟩
    · skip
      go_simp
      refine hK _ _ ?_
      clear hK K
      refine wpAnyIn_ready (rs := [0, 2]) (by kernel_rfl) (by simp) ?_
      refine AllReadyIn.cons rfl (fun K hK => (if_pos rfl).mpr ?_) (AllReadyIn.cons rfl (fun K hK => (if_pos rfl).mpr ?_) (AllReadyIn.nil))
      · skip
        go_simp
        refine hK _ _ ?_
        clear hK K
        refine wpAnyIn_ready (rs := [2]) (by kernel_rfl) (by simp) ?_
        refine AllReadyIn.cons rfl (fun K hK => (if_pos rfl).mpr ?_) (AllReadyIn.nil)
        go_simp
        refine ⟨trivial, ?_⟩
        refine (CallsIn.inRound l ((callsIn_wide (n := 4 - 1 - 1 - 1)).2 (hS W1 hB1 x))).mono ?_
        rintro e W2 ⟨rfl, hB2⟩
        dsimp only
        obtain ⟨hv2, hrow2, hbel2, hc2, hBw2⟩ := blocks_call hsz0 hv1 hrow1 hbel hB1 hB2
        clear hc1
        have hc3 := fun o => (hv2.alloc o).cell
        refine hK _ _ ?_
        clear hK K
        refine wpAnyIn_ready (rs := [3]) (by kernel_rfl) (by simp) ?_
        refine AllReadyIn.cons rfl (fun K hK => (if_pos rfl).mpr ?_) (AllReadyIn.nil)
        go_simp
        refine hK _ _ ?_
        clear hK K
        refine wpAnyIn_ready (rs := [4]) (by kernel_rfl) (by simp) ?_
        refine AllReadyIn.cons rfl (fun K hK => (if_pos rfl).mpr ?_) (AllReadyIn.nil)
        refine op_append_own _ rfl _ _ 28 rfl (w.heap.size + 1 + 1 + 1) 22 i0 (.int .u32 0) 1 4 Tryd.underlying28 hi hz0 hz1 hz2 rfl (by decide) _ _ _ rfl (hrow2.alloc _) ⟨W2.heap.size, 0, none⟩ 1 1 [.int .u32 (f x : Nat)] rfl rfl (cell_one_new _ _ _) (by simp [Value.oneCell']) (by simp only [maxLen]; omega) (by omega) (by have := hbel2.size; simp; omega) ?_
        intro v' w1 hown' hgrow hnil'
        obtain ⟨g', cap', rfl⟩ := ownsRow_succ hown'
        obtain ⟨hcw, hfw, hE1, hE2, hE3, hE4, hE5, hE6⟩ := blocks_end hsz0 hv2 hrow2 hbel2 hBw2 hown' hgrow
        refine hK _ _ ?_
        clear hK K
        refine wpAnyIn_ready (rs := [5]) (by kernel_rfl) (by simp) ?_
        refine AllReadyIn.cons rfl (fun K hK => (if_pos rfl).mpr ?_) (AllReadyIn.nil)
        go_simp
        refine hK _ _ ?_
        clear hK K
        refine wpAnyIn_done (by kernel_rfl) ?_ _
        exact ⟨hE1.from _, hE2, ⟨_, hE3, by rw [List.length_append, List.map_append]; exact hE4, by simp⟩, hE5, hE6⟩
      · skip
        go_simp
        refine ⟨trivial, ?_⟩
        refine (CallsIn.inRound l ((callsIn_wide (n := 4 - 1 - 1 - 1)).2 (hS W1 hB1 x))).mono ?_
        rintro e W2 ⟨rfl, hB2⟩
        dsimp only
        obtain ⟨hv2, hrow2, hbel2, hc2, hBw2⟩ := blocks_call hsz0 hv1 hrow1 hbel hB1 hB2
        clear hc1
        have hc3 := fun o => (hv2.alloc o).cell
        refine hK _ _ ?_
        clear hK K
        refine wpAnyIn_ready (rs := [0, 3]) (by kernel_rfl) (by simp) ?_
        refine AllReadyIn.cons rfl (fun K hK => (if_pos rfl).mpr ?_) (AllReadyIn.cons rfl (fun K hK => (if_pos rfl).mpr ?_) (AllReadyIn.nil))
        · skip
          go_simp
          refine hK _ _ ?_
          clear hK K
          refine wpAnyIn_ready (rs := [3]) (by kernel_rfl) (by simp) ?_
          refine AllReadyIn.cons rfl (fun K hK => (if_pos rfl).mpr ?_) (AllReadyIn.nil)
          go_simp
          refine hK _ _ ?_
          clear hK K
          refine wpAnyIn_ready (rs := [4]) (by kernel_rfl) (by simp) ?_
          refine AllReadyIn.cons rfl (fun K hK => (if_pos rfl).mpr ?_) (AllReadyIn.nil)
          refine op_append_own _ rfl _ _ 28 rfl (w.heap.size + 1 + 1 + 1) 22 i0 (.int .u32 0) 1 4 Tryd.underlying28 hi hz0 hz1 hz2 rfl (by decide) _ _ _ rfl (hrow2.alloc _) ⟨W2.heap.size, 0, none⟩ 1 1 [.int .u32 (f x : Nat)] rfl rfl (cell_one_new _ _ _) (by simp [Value.oneCell']) (by simp only [maxLen]; omega) (by omega) (by have := hbel2.size; simp; omega) ?_
          intro v' w1 hown' hgrow hnil'
          obtain ⟨g', cap', rfl⟩ := ownsRow_succ hown'
          obtain ⟨hcw, hfw, hE1, hE2, hE3, hE4, hE5, hE6⟩ := blocks_end hsz0 hv2 hrow2 hbel2 hBw2 hown' hgrow
          refine hK _ _ ?_
          clear hK K
          refine wpAnyIn_ready (rs := [5]) (by kernel_rfl) (by simp) ?_
          refine AllReadyIn.cons rfl (fun K hK => (if_pos rfl).mpr ?_) (AllReadyIn.nil)
          go_simp
          refine hK _ _ ?_
          clear hK K
          refine wpAnyIn_done (by kernel_rfl) ?_ _
          exact ⟨hE1.from _, hE2, ⟨_, hE3, by rw [List.length_append, List.map_append]; exact hE4, by simp⟩, hE5, hE6⟩
        · skip
          go_simp
          refine hK _ _ ?_
          clear hK K
          refine wpAnyIn_ready (rs := [0]) (by kernel_rfl) (by simp) ?_
          refine AllReadyIn.cons rfl (fun K hK => (if_pos rfl).mpr ?_) (AllReadyIn.nil)
          go_simp
          refine hK _ _ ?_
          clear hK K
          refine wpAnyIn_ready (rs := [4]) (by kernel_rfl) (by simp) ?_
          refine AllReadyIn.cons rfl (fun K hK => (if_pos rfl).mpr ?_) (AllReadyIn.nil)
          refine op_append_own _ rfl _ _ 28 rfl (w.heap.size + 1 + 1 + 1) 22 i0 (.int .u32 0) 1 4 Tryd.underlying28 hi hz0 hz1 hz2 rfl (by decide) _ _ _ rfl (hrow2.alloc _) ⟨W2.heap.size, 0, none⟩ 1 1 [.int .u32 (f x : Nat)] rfl rfl (cell_one_new _ _ _) (by simp [Value.oneCell']) (by simp only [maxLen]; omega) (by omega) (by have := hbel2.size; simp; omega) ?_
          intro v' w1 hown' hgrow hnil'
          obtain ⟨g', cap', rfl⟩ := ownsRow_succ hown'
          obtain ⟨hcw, hfw, hE1, hE2, hE3, hE4, hE5, hE6⟩ := blocks_end hsz0 hv2 hrow2 hbel2 hBw2 hown' hgrow
          refine hK _ _ ?_
          clear hK K
          refine wpAnyIn_ready (rs := [5]) (by kernel_rfl) (by simp) ?_
          refine AllReadyIn.cons rfl (fun K hK => (if_pos rfl).mpr ?_) (AllReadyIn.nil)
          go_simp
          refine hK _ _ ?_
          clear hK K
          refine wpAnyIn_done (by kernel_rfl) ?_ _
          exact ⟨hE1.from _, hE2, ⟨_, hE3, by rw [List.length_append, List.map_append]; exact hE4, by simp⟩, hE5, hE6⟩
    -- END OF ORDERS
  case done =>
    rintro D ys W hD rfl ⟨⟨v, hv, hrow, hnil⟩, hB, hS3⟩ hK
    have hc := hv.cell
    gi_wp2
    refine ⟨by simp, .inl ⟨_, _, rfl, run_takeDeferred hK, ?_⟩⟩
    rw [upto_length] at hrow
    exact ⟨_, results_tmp rfl _ _ _, v, rfl, ownsRow_low (by omega) (ownsRow_putObj hrow _ hK rfl), hnil.trans (by rw [← List.length_eq_zero_iff, upto_length]), hB.trans (belowK_b (w := w) (Nat.le_refl _) W D _ _ (by simp at hD; omega) hK rfl rfl)⟩
  case stop =>
    rintro D c pre W _ _ h _
    exact h.elim
end Go.Proofs.YtbmidddpddiopaaDoor.VBlocks
