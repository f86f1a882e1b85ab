-- Laid by myprint.py (a scratch copy of the print, with texts of my own in it). Not trusted: Lean checks it.
import Derived.Test.YtegnjcehklldpaaQ0
import Derived.Test.YtegnjcehklldpaaQ1
import Derived.Test.YtegnjcehklldpaaQ2
namespace Go.Proofs.Ytegnjcehklldpaa.Q
open Go.RowKit Go.Proofs.YtegnjcehklldpaaW.PrintWords Go.Proofs.YtegnjcehklldpaaW.PrintLast Go.Proofs.YtegnjcehklldpaaW.PrintMore
attribute [local go_sem] max2_int min2_int max_two min_two max_three min_three max_four min_four   -- for this text's walks alone
set_option linter.unusedVariables false
set_option linter.unusedSimpArgs false

/-! ### footlockerlaw01_GfRows: function 4 -/
mutual
def footlockerlaw01_GfRows.j0 : Nat → List Int → List Int → Int → Bool → Option (Bool)
  | 0, _, _, _, _ => none
  | k + 1, x0, x1, x2, x20 => if x20 = true then (some true) else (footlockerlaw01_GfRows.l0 k x0 x1 x2 0 (x0.length : Int) 0)
def footlockerlaw01_GfRows.l0 : Nat → List Int → List Int → Int → Int → Int → Int → Option (Bool)
  | 0, _, _, _, _, _, _ => none
  | k + 1, x0, x1, x2, x7, x22, x23 => if x23 < x22 then (if x23 < (x1.length : Int) then (if 0 ≤ x23 then (if x23 < (x0.length : Int) then ((footlockerref01_Mul.f k (rd x0 x23) (rd x1 x23)).bind fun t170 => (footlockerlaw01_GfRows.l0 k x0 x1 x2 (Go.bits .xor .u8 x7 t170) x22 (wrap64 (x23 + 1)))) else (none)) else (none)) else (footlockerlaw01_GfRows.l0 k x0 x1 x2 x7 x22 (wrap64 (x23 + 1)))) else ((gf_Scale.f k x0 x2).bind fun t171 => (footlockerlaw01_GfRows.l1 k x0 x1 x2 x7 t171 (t171.length : Int) 0))
def footlockerlaw01_GfRows.l1 : Nat → List Int → List Int → Int → Int → List Int → Int → Int → Option (Bool)
  | 0, _, _, _, _, _, _, _ => none
  | k + 1, x0, x1, x2, x7, x9, x46, x47 => if x47 < x46 then (if x47 ≥ (x0.length : Int) then (some false) else (if 0 ≤ x47 then (if x47 < (x9.length : Int) then (if x47 < (x0.length : Int) then ((footlockerref01_Mul.f k (rd x0 x47) x2).bind fun t176 => (if (rd x9 x47) = t176 then (footlockerlaw01_GfRows.l1 k x0 x1 x2 x7 x9 x46 (wrap64 (x47 + 1))) else (some false))) else (none)) else (none)) else (none))) else ((gf_Dot.f k x0 x1).bind fun t177 => (if t177 = x7 then (some ((x9.length : Int) == (x0.length : Int))) else (some false)))
end
def footlockerlaw01_GfRows.f (k : Nat) (l0 : List Int) (l1 : List Int) (a2 : Int) : Option (Bool) := (footlockerlaw01_alive.f k).bind fun t167 => (if t167 = true then (if (l0.length : Int) > 300 then (footlockerlaw01_GfRows.j0 k l0 l1 a2 true) else (footlockerlaw01_GfRows.j0 k l0 l1 a2 (decide ((l1.length : Int) > 300)))) else (some false))
theorem footlockerlaw01_GfRows.mono_l : ∀ k, (∀ y0 y1 y2 y3, LeO (footlockerlaw01_GfRows.j0 k y0 y1 y2 y3) (footlockerlaw01_GfRows.j0 (k + 1) y0 y1 y2 y3)) ∧ (∀ y0 y1 y2 y3 y4 y5, LeO (footlockerlaw01_GfRows.l0 k y0 y1 y2 y3 y4 y5) (footlockerlaw01_GfRows.l0 (k + 1) y0 y1 y2 y3 y4 y5)) ∧ (∀ y0 y1 y2 y3 y4 y5 y6, LeO (footlockerlaw01_GfRows.l1 k y0 y1 y2 y3 y4 y5 y6) (footlockerlaw01_GfRows.l1 (k + 1) y0 y1 y2 y3 y4 y5 y6))
  | 0 => ⟨fun _ _ _ _ r h => by simp [footlockerlaw01_GfRows.j0] at h, fun _ _ _ _ _ _ r h => by simp [footlockerlaw01_GfRows.l0] at h, fun _ _ _ _ _ _ _ r h => by simp [footlockerlaw01_GfRows.l1] at h⟩
  | k + 1 => by
    obtain ⟨ih0, ih1, ih2⟩ := footlockerlaw01_GfRows.mono_l k
    refine ⟨?_, ?_, ?_⟩
    · intro y0 y1 y2 y3
      unfold footlockerlaw01_GfRows.j0
      repeat' first
      | (with_reducible exact ih0 _ _ _ _)
      | (with_reducible exact ih1 _ _ _ _ _ _)
      | (with_reducible exact ih2 _ _ _ _ _ _ _)
      | (with_reducible exact footlockerlaw01_alive.mono _)
      | (with_reducible exact footlockerref01_Mul.mono _ _ _)
      | (with_reducible exact gf_Dot.mono _ _ _)
      | (with_reducible exact gf_Scale.mono _ _ _)
      | (with_reducible exact LeO.refl _)
      | (with_reducible exact LeO.none _)
      | (with_reducible refine LeO.ite ?_ ?_)
      | (with_reducible refine LeO.bind ?_ (fun _ => ?_))
      | exact ih0 _ _ _ _
      | exact ih1 _ _ _ _ _ _
      | exact ih2 _ _ _ _ _ _ _
      | exact footlockerlaw01_alive.mono _
      | exact footlockerref01_Mul.mono _ _ _
      | exact gf_Dot.mono _ _ _
      | exact gf_Scale.mono _ _ _
      | exact LeO.none _
      | refine LeO.ite ?_ ?_
      | refine LeO.bind ?_ (fun _ => ?_)
    · intro y0 y1 y2 y3 y4 y5
      unfold footlockerlaw01_GfRows.l0
      repeat' first
      | (with_reducible exact ih0 _ _ _ _)
      | (with_reducible exact ih1 _ _ _ _ _ _)
      | (with_reducible exact ih2 _ _ _ _ _ _ _)
      | (with_reducible exact footlockerlaw01_alive.mono _)
      | (with_reducible exact footlockerref01_Mul.mono _ _ _)
      | (with_reducible exact gf_Dot.mono _ _ _)
      | (with_reducible exact gf_Scale.mono _ _ _)
      | (with_reducible exact LeO.refl _)
      | (with_reducible exact LeO.none _)
      | (with_reducible refine LeO.ite ?_ ?_)
      | (with_reducible refine LeO.bind ?_ (fun _ => ?_))
      | exact ih0 _ _ _ _
      | exact ih1 _ _ _ _ _ _
      | exact ih2 _ _ _ _ _ _ _
      | exact footlockerlaw01_alive.mono _
      | exact footlockerref01_Mul.mono _ _ _
      | exact gf_Dot.mono _ _ _
      | exact gf_Scale.mono _ _ _
      | exact LeO.none _
      | refine LeO.ite ?_ ?_
      | refine LeO.bind ?_ (fun _ => ?_)
    · intro y0 y1 y2 y3 y4 y5 y6
      unfold footlockerlaw01_GfRows.l1
      repeat' first
      | (with_reducible exact ih0 _ _ _ _)
      | (with_reducible exact ih1 _ _ _ _ _ _)
      | (with_reducible exact ih2 _ _ _ _ _ _ _)
      | (with_reducible exact footlockerlaw01_alive.mono _)
      | (with_reducible exact footlockerref01_Mul.mono _ _ _)
      | (with_reducible exact gf_Dot.mono _ _ _)
      | (with_reducible exact gf_Scale.mono _ _ _)
      | (with_reducible exact LeO.refl _)
      | (with_reducible exact LeO.none _)
      | (with_reducible refine LeO.ite ?_ ?_)
      | (with_reducible refine LeO.bind ?_ (fun _ => ?_))
      | exact ih0 _ _ _ _
      | exact ih1 _ _ _ _ _ _
      | exact ih2 _ _ _ _ _ _ _
      | exact footlockerlaw01_alive.mono _
      | exact footlockerref01_Mul.mono _ _ _
      | exact gf_Dot.mono _ _ _
      | exact gf_Scale.mono _ _ _
      | exact LeO.none _
      | refine LeO.ite ?_ ?_
      | refine LeO.bind ?_ (fun _ => ?_)
theorem footlockerlaw01_GfRows.mono : ∀ a0 a1 a2 k, LeO (footlockerlaw01_GfRows.f k a0 a1 a2) (footlockerlaw01_GfRows.f (k + 1) a0 a1 a2) := by
  intro a0 a1 a2 k
  obtain ⟨ih0, ih1, ih2⟩ := footlockerlaw01_GfRows.mono_l k
  unfold footlockerlaw01_GfRows.f
  repeat' first
      | (with_reducible exact ih0 _ _ _ _)
      | (with_reducible exact ih1 _ _ _ _ _ _)
      | (with_reducible exact ih2 _ _ _ _ _ _ _)
      | (with_reducible exact footlockerlaw01_alive.mono _)
      | (with_reducible exact footlockerref01_Mul.mono _ _ _)
      | (with_reducible exact gf_Dot.mono _ _ _)
      | (with_reducible exact gf_Scale.mono _ _ _)
      | (with_reducible exact LeO.refl _)
      | (with_reducible exact LeO.none _)
      | (with_reducible refine LeO.ite ?_ ?_)
      | (with_reducible refine LeO.bind ?_ (fun _ => ?_))
      | exact ih0 _ _ _ _
      | exact ih1 _ _ _ _ _ _
      | exact ih2 _ _ _ _ _ _ _
      | exact footlockerlaw01_alive.mono _
      | exact footlockerref01_Mul.mono _ _ _
      | exact gf_Dot.mono _ _ _
      | exact gf_Scale.mono _ _ _
      | exact LeO.none _
      | refine LeO.ite ?_ ?_
      | refine LeO.bind ?_ (fun _ => ?_)
set_option maxHeartbeats 8000000 in
set_option maxRecDepth 100000 in
theorem footlockerlaw01_GfRows.calls (k : Nat) (A0 : Option Addr) (c0 : Nat) (l0 : List Int) (A1 : Option Addr) (c1 : Nat) (l1 : List Int) (a2 : Int) (r : Bool) (w : World) (hr0 : Kd.C (Kd.int .u8) w A0 l0.length l0) (hc0 : l0.length ≤ c0) (hr1 : Kd.C (Kd.int .u8) w A1 l1.length l1) (hc1 : l1.length ≤ c1) (h : footlockerlaw01_GfRows.f k l0 l1 a2 = some r) :
    Calls Try.prog 4 #[.slice A0 l0.length c0, .slice A1 l1.length c1, .int .u8 a2] w fun e w' => e = .returned (.bool r) ∧ Below w.heap.size w w' := by
  have HR0 := Aside0.mk hr0
  have HC0 := Aside0.mk hc0
  clear hr0 hc0
  have HR1 := Aside0.mk hr1
  have HC1 := Aside0.mk hc1
  clear hr1 hc1
  have HB := Aside0.mk (Below.refl w.heap.size w)
  have H : ((footlockerlaw01_alive.f k).bind fun t167 => (if t167 = true then (if (l0.length : Int) > 300 then (footlockerlaw01_GfRows.j0 k l0 l1 a2 true) else (footlockerlaw01_GfRows.j0 k l0 l1 a2 (decide ((l1.length : Int) > 300)))) else (some false))) = some r := h
  clear h
  replace H := Option.bind_eq_some_iff.mp H
  obtain ⟨t167, A40, H⟩ := H
  replace H : (if t167 = true then (if (l0.length : Int) > 300 then (footlockerlaw01_GfRows.j0 k l0 l1 a2 true) else (footlockerlaw01_GfRows.j0 k l0 l1 a2 (decide ((l1.length : Int) > 300)))) else (some false)) = some r := H
  have A4 := Aside0.mk A40
  clear A40
  by_cases c5 : t167 = true
  · subst c5
    have H1 : (if (l0.length : Int) > 300 then (footlockerlaw01_GfRows.j0 k l0 l1 a2 true) else (footlockerlaw01_GfRows.j0 k l0 l1 a2 (decide ((l1.length : Int) > 300)))) = some r := by rw [if_pos rfl] at H; exact H
    clear H
    have H := H1
    clear H1
    have HC6 := Aside0.mk H
    clear H
    go_enter Try.func4, Try.ntmps4
    go_upto_region 3 with (first | (go_at_call 9; (with_reducible refine (footlockerlaw01_alive.calls k  true _ A4.out).mono ?_); rintro e w7 ⟨rfl, hb⟩; have n0_ := Aside0.mk (below_step (by repeat (first | (with_reducible first | exact HB.out | apply below_alloc | apply pw_below_drewN | apply below_drew1) | exact HB.out)) hb); clear HB; have HB := n0_; clear n0_; (try clear hb); (try clear hb2); (try clear hk); (try clear hi)))
    repeat (go_quiet (first | (go_at_call 9; (with_reducible refine (footlockerlaw01_alive.calls k  true _ A4.out).mono ?_); rintro e w7 ⟨rfl, hb⟩; have n0_ := Aside0.mk (below_step (by repeat (first | (with_reducible first | exact HB.out | apply below_alloc | apply pw_below_drewN | apply below_drew1) | exact HB.out)) hb); clear HB; have HB := n0_; clear n0_; (try clear hb); (try clear hb2); (try clear hk); (try clear hi))); go_upto_region 3 with (first | (go_at_call 9; (with_reducible refine (footlockerlaw01_alive.calls k  true _ A4.out).mono ?_); rintro e w7 ⟨rfl, hb⟩; have n0_ := Aside0.mk (below_step (by repeat (first | (with_reducible first | exact HB.out | apply below_alloc | apply pw_below_drewN | apply below_drew1) | exact HB.out)) hb); clear HB; have HB := n0_; clear n0_; (try clear hb); (try clear hb2); (try clear hk); (try clear hi))))
    (try simp only [Act.put, List.setIfInBounds_toArray, List.set_cons_zero, List.set_cons_succ])
    go_cut [20] (fun v20 wc => ∃ (kq : Nat) (x20_5 : Bool), v20 = .bool x20_5 ∧ Aside0 (footlockerlaw01_GfRows.j0 kq l0 l1 a2 x20_5 = some r) ∧ Aside0 (kq ≤ k) ∧ Aside0 (Below w.heap.size w wc))
    case first =>
      have H := HC6.out
      clear HC6
      by_cases c8 : (l0.length : Int) > 300
      · rw [if_pos c8] at H
        have c8b0 : decide (300 < (l0.length : Int)) = true := decide_eq_true c8
        have c8b1 : decide (300 < l0.length) = true := decide_eq_true (by omega)
        clear c8
        (first | rw [c8b0] | (simp only [i64_w, i32_w]; rw [c8b0]) | skip)
        have H' := Aside0.mk H
        clear H
        go_wp2
        repeat (go_quiet (fail); try go_wp2)
        go_meet
        case rel => exact ⟨_, (true), (by first | rfl | (simp; done) | (simp [*]; done)), H', ⟨by first | omega | exact Nat.le_refl _⟩, ⟨by repeat (first | (with_reducible first | exact HB.out | apply below_alloc | apply pw_below_drewN | apply below_drew1) | exact HB.out)⟩⟩
      · rw [if_neg c8] at H
        have c8b0 : decide (300 < (l0.length : Int)) = false := decide_eq_false c8
        have c8b1 : decide (300 < l0.length) = false := decide_eq_false (by omega)
        clear c8
        (first | rw [c8b0] | (simp only [i64_w, i32_w]; rw [c8b0]) | skip)
        have H' := Aside0.mk H
        clear H
        go_wp2
        repeat (go_quiet (fail); try go_wp2)
        go_meet
        case rel => exact ⟨_, (decide ((l1.length : Int) > 300)), (by first | rfl | (simp; done) | (simp [*]; done)), H', ⟨by first | omega | exact Nat.le_refl _⟩, ⟨by repeat (first | (with_reducible first | exact HB.out | apply below_alloc | apply pw_below_drewN | apply below_drew1) | exact HB.out)⟩⟩
    case rest =>
      clear HC6
      try clear c1
      try clear p2
      try clear c4
      try clear c5
      try clear c8
      try clear c8b0
      try clear c8b1
      obtain ⟨kq, x20_5, rfl, HA, HJ5, HB⟩ := hcut
      cases kq with
      | zero => exact absurd HA.out (by simp [footlockerlaw01_GfRows.j0])
      | succ kj5 =>
        have H := HA.out
        clear HA
        simp only [footlockerlaw01_GfRows.j0] at H
        by_cases c9 : x20_5 = true
        · subst c9
          have H1 : (some true) = some r := by rw [if_pos rfl] at H; exact H
          clear H
          have H := H1
          clear H1
          obtain rfl := Option.some.inj H
          go_wp2
          repeat (go_quiet (fail); try go_wp2)
          go_ret
          exact ⟨by first | rfl | (simp [errW_none, errW_some] <;> rfl) | (simp [*, errW_none, errW_some] <;> rfl), by repeat (first | (with_reducible first | exact HB.out | apply below_alloc | apply pw_below_drewN | apply below_drew1) | exact HB.out)⟩
        · replace c9 := Bool.eq_false_iff.mpr c9
          subst c9
          have H1 : (footlockerlaw01_GfRows.l0 kj5 l0 l1 a2 0 (l0.length : Int) 0) = some r := by rw [if_neg (show ¬ (false = true) by decide)] at H; exact H
          clear H
          have H := H1
          clear H1
          have H' := Aside0.mk H
          clear H
          go_wp2
          repeat (go_quiet (fail); try go_wp2)
          go_loopg [7, 23] kj5 (fun kq v7 v23 w' => ∃ (x7_2 : Int) (x23_2 : Int), v7 = .int .u8 x7_2 ∧ v23 = .int .i64 x23_2 ∧ Aside0 (footlockerlaw01_GfRows.l0 kq l0 l1 a2 x7_2 (l0.length : Int) x23_2 = some r) ∧ Aside0 (kq ≤ kj5) ∧ Aside0 (Below w.heap.size w w'))
          case atStart => exact ⟨(0), (0), (by first | rfl | (simp; done) | (simp [*]; done)), (by first | rfl | (simp; done) | (simp [*]; done)), H', ⟨Nat.le_refl _⟩, ⟨by repeat (first | (with_reducible first | exact HB.out | apply below_alloc | apply pw_below_drewN | apply below_drew1) | exact HB.out)⟩⟩
          case round =>
            clear H'
            try clear c1
            try clear p2
            try clear c4
            try clear c5
            try clear c8
            try clear c8b0
            try clear c8b1
            try clear c9
            try clear p2
            obtain ⟨x7_2, x23_2, rfl, rfl, HA, HK2, HB⟩ := hrel
            cases gk with
            | zero => exact absurd HA.out (by simp [footlockerlaw01_GfRows.l0])
            | succ k2 =>
              have H := HA.out
              clear HA
              simp only [footlockerlaw01_GfRows.l0] at H
              by_cases c10 : x23_2 < (l0.length : Int)
              · rw [if_pos c10] at H
                have c10b0 : decide (x23_2 < (l0.length : Int)) = true := decide_eq_true c10
                clear c10
                by_cases c11 : x23_2 < (l1.length : Int)
                · rw [if_pos c11] at H
                  have c11b0 : decide (x23_2 < (l1.length : Int)) = true := decide_eq_true c11
                  clear c11
                  by_cases c12 : 0 ≤ x23_2
                  · rw [if_pos c12] at H
                    have c12b0 : decide (0 ≤ x23_2) = true := decide_eq_true c12
                    clear c12
                    by_cases c13 : x23_2 < (l0.length : Int)
                    · rw [if_pos c13] at H
                      have c13b0 : decide (x23_2 < (l0.length : Int)) = true := decide_eq_true c13
                      clear c13
                      replace H := Option.bind_eq_some_iff.mp H
                      obtain ⟨t170, A140, H⟩ := H
                      replace H : (footlockerlaw01_GfRows.l0 k2 l0 l1 a2 (Go.bits .xor .u8 x7_2 t170) (l0.length : Int) (wrap64 (x23_2 + 1))) = some r := H
                      have A14 := Aside0.mk A140
                      clear A140
                      have H' := Aside0.mk H
                      clear H
                      have p168 : 0 ≤ (x23_2 : Int) := of_decide_eq_true (by first | (with_reducible assumption) | assumption)
                      have q168 : x23_2 < (l0.length : Int) := of_decide_eq_true (by first | (with_reducible assumption) | assumption)
                      obtain ⟨ad168, e168, hx168_0⟩ := Kd.at_int HR0.out x23_2 p168 q168
                      cases e168
                      replace hx168_0 := (HB.out.cell (World.block_lt_of_cell? w _ hx168_0)).trans hx168_0
                      replace p168 := eq_true p168
                      replace q168 := eq_true q168
                      have p169 : 0 ≤ (x23_2 : Int) := of_decide_eq_true (by first | (with_reducible assumption) | assumption)
                      have q169 : x23_2 < (l1.length : Int) := of_decide_eq_true (by first | (with_reducible assumption) | assumption)
                      obtain ⟨ad169, e169, hx169_0⟩ := Kd.at_int HR1.out x23_2 p169 q169
                      cases e169
                      replace hx169_0 := (HB.out.cell (World.block_lt_of_cell? w _ hx169_0)).trans hx169_0
                      replace p169 := eq_true p169
                      replace q169 := eq_true q169
                      go_wp2_with (first | (go_at_call 13; (with_reducible refine (footlockerref01_Mul.calls k2 (rd l0 x23_2) (rd l1 x23_2) t170 _ A14.out).mono ?_); rintro e w' ⟨rfl, ⟨nd, rfl⟩⟩; (try first | exact ⟨rfl, _, World.drewN_drewN _ _ _⟩ | exact ⟨rfl, _, Eq.trans (World.drewN_drewN _ _ _) (congrArg (World.drewN _) (Nat.add_assoc _ _ _))⟩)))
                      repeat (go_quiet (first | (go_at_call 13; (with_reducible refine (footlockerref01_Mul.calls k2 (rd l0 x23_2) (rd l1 x23_2) t170 _ A14.out).mono ?_); rintro e w' ⟨rfl, ⟨nd, rfl⟩⟩; (try first | exact ⟨rfl, _, World.drewN_drewN _ _ _⟩ | exact ⟨rfl, _, Eq.trans (World.drewN_drewN _ _ _) (congrArg (World.drewN _) (Nat.add_assoc _ _ _))⟩))); try go_wp2_with (first | (go_at_call 13; (with_reducible refine (footlockerref01_Mul.calls k2 (rd l0 x23_2) (rd l1 x23_2) t170 _ A14.out).mono ?_); rintro e w' ⟨rfl, ⟨nd, rfl⟩⟩; (try first | exact ⟨rfl, _, World.drewN_drewN _ _ _⟩ | exact ⟨rfl, _, Eq.trans (World.drewN_drewN _ _ _) (congrArg (World.drewN _) (Nat.add_assoc _ _ _))⟩))))
                      go_roundg k2
                      case measure => have := HJ5.out; have := HK2.out; omega
                      case rel => exact ⟨(Go.bits .xor .u8 x7_2 t170), (wrap64 (x23_2 + 1)), (by first | rfl | (simp; done) | (simp [*]; done)), (by first | rfl | (simp; done) | (simp [*]; done)), H', ⟨by have := HJ5.out; have := HK2.out; omega⟩, ⟨by repeat (first | (with_reducible first | exact HB.out | apply below_alloc | apply pw_below_drewN | apply below_drew1) | exact HB.out)⟩⟩
                    · rw [if_neg c13] at H
                      exact absurd H (by simp)
                  · rw [if_neg c12] at H
                    exact absurd H (by simp)
                · rw [if_neg c11] at H
                  have c11b0 : decide (x23_2 < (l1.length : Int)) = false := decide_eq_false c11
                  clear c11
                  have H' := Aside0.mk H
                  clear H
                  go_wp2
                  repeat (go_quiet (fail); try go_wp2)
                  go_roundg k2
                  case measure => have := HJ5.out; have := HK2.out; omega
                  case rel => exact ⟨(x7_2), (wrap64 (x23_2 + 1)), (by first | rfl | (simp; done) | (simp [*]; done)), (by first | rfl | (simp; done) | (simp [*]; done)), H', ⟨by have := HJ5.out; have := HK2.out; omega⟩, ⟨by repeat (first | (with_reducible first | exact HB.out | apply below_alloc | apply pw_below_drewN | apply below_drew1) | exact HB.out)⟩⟩
              · rw [if_neg c10] at H
                have c10b0 : decide (x23_2 < (l0.length : Int)) = false := decide_eq_false c10
                clear c10
                replace H := Option.bind_eq_some_iff.mp H
                obtain ⟨t171, A150, H⟩ := H
                replace H : (footlockerlaw01_GfRows.l1 k2 l0 l1 a2 x7_2 t171 (t171.length : Int) 0) = some r := H
                have A15 := Aside0.mk A150
                clear A150
                have H' := Aside0.mk H
                clear H
                go_wp2_with (first | (go_at_call 20; (with_reducible refine (gf_Scale.calls k2 _ _ l0 a2 t171 _ ?side1 ?side2 A15.out).mono ?_); (case side1 => repeat (first | exact (Kd.C_below HR0.out HB.out) | (with_reducible refine Kd.C_alloc ?_ _) | (with_reducible refine Kd.C_drewN ?_ _) | (with_reducible refine Kd.C_drew ?_))); (case side2 => exact HC0.out); rintro e w16 ⟨v172, rfl, ho0, hb⟩; have n0_ := Aside0.mk (Kd.R_lower ho0 (below_size (by repeat (first | (with_reducible first | exact HB.out | apply below_alloc | apply pw_below_drewN | apply below_drew1) | exact HB.out)))); have n1_ := Aside0.mk (below_step (by repeat (first | (with_reducible first | exact HB.out | apply below_alloc | apply pw_below_drewN | apply below_drew1) | exact HB.out)) hb); clear HB; have HO173 := n0_; have HB := n1_; clear n0_ n1_; (try clear hb); (try clear hb2); (try clear hk); (try clear hi); (try clear ho0); obtain ⟨Ao17, co17, eo17⟩ := Kd.R_slice HO173.out; subst eo17))
                repeat (go_quiet (first | (go_at_call 20; (with_reducible refine (gf_Scale.calls k2 _ _ l0 a2 t171 _ ?side1 ?side2 A15.out).mono ?_); (case side1 => repeat (first | exact (Kd.C_below HR0.out HB.out) | (with_reducible refine Kd.C_alloc ?_ _) | (with_reducible refine Kd.C_drewN ?_ _) | (with_reducible refine Kd.C_drew ?_))); (case side2 => exact HC0.out); rintro e w16 ⟨v172, rfl, ho0, hb⟩; have n0_ := Aside0.mk (Kd.R_lower ho0 (below_size (by repeat (first | (with_reducible first | exact HB.out | apply below_alloc | apply pw_below_drewN | apply below_drew1) | exact HB.out)))); have n1_ := Aside0.mk (below_step (by repeat (first | (with_reducible first | exact HB.out | apply below_alloc | apply pw_below_drewN | apply below_drew1) | exact HB.out)) hb); clear HB; have HO173 := n0_; have HB := n1_; clear n0_ n1_; (try clear hb); (try clear hb2); (try clear hk); (try clear hi); (try clear ho0); obtain ⟨Ao17, co17, eo17⟩ := Kd.R_slice HO173.out; subst eo17)); try go_wp2_with (first | (go_at_call 20; (with_reducible refine (gf_Scale.calls k2 _ _ l0 a2 t171 _ ?side1 ?side2 A15.out).mono ?_); (case side1 => repeat (first | exact (Kd.C_below HR0.out HB.out) | (with_reducible refine Kd.C_alloc ?_ _) | (with_reducible refine Kd.C_drewN ?_ _) | (with_reducible refine Kd.C_drew ?_))); (case side2 => exact HC0.out); rintro e w16 ⟨v172, rfl, ho0, hb⟩; have n0_ := Aside0.mk (Kd.R_lower ho0 (below_size (by repeat (first | (with_reducible first | exact HB.out | apply below_alloc | apply pw_below_drewN | apply below_drew1) | exact HB.out)))); have n1_ := Aside0.mk (below_step (by repeat (first | (with_reducible first | exact HB.out | apply below_alloc | apply pw_below_drewN | apply below_drew1) | exact HB.out)) hb); clear HB; have HO173 := n0_; have HB := n1_; clear n0_ n1_; (try clear hb); (try clear hb2); (try clear hk); (try clear hi); (try clear ho0); obtain ⟨Ao17, co17, eo17⟩ := Kd.R_slice HO173.out; subst eo17)))
                go_loopg [47] k2 (fun kq v47 w' => ∃ (x47_3 : Int), v47 = .int .i64 x47_3 ∧ Aside0 (footlockerlaw01_GfRows.l1 kq l0 l1 a2 x7_2 t171 (t171.length : Int) x47_3 = some r) ∧ Aside0 (kq ≤ k2) ∧ Aside0 (Kd.R (Kd.int .u8) 5 w' w.heap.size (fun _ => True) (.slice Ao17 t171.length co17) t171) ∧ Aside0 (Below w.heap.size w w'))
                case atStart => exact ⟨(0), (by first | rfl | (simp; done) | (simp [*]; done)), H', ⟨Nat.le_refl _⟩, ⟨by (with_reducible repeat (first | apply Kd.R_alloc | apply Kd.R_drewN | apply Kd.R_drew)); exact HO173.out⟩, ⟨by repeat (first | (with_reducible first | exact HB.out | apply below_alloc | apply pw_below_drewN | apply below_drew1) | exact HB.out)⟩⟩
                case round =>
                  clear H'
                  try clear c1
                  try clear p1
                  try clear q1
                  try clear hx1
                  try clear p2
                  try clear c4
                  try clear c5
                  try clear p6
                  try clear c8
                  try clear c8b0
                  try clear c8b1
                  try clear c9
                  try clear c10
                  try clear c10b0
                  try clear c11
                  try clear c11b0
                  try clear c12
                  try clear c12b0
                  try clear c13
                  try clear c13b0
                  try clear p16
                  try clear q16
                  try clear hx16
                  try clear hx168_0
                  try clear hx169_0
                  try clear p168
                  try clear p169
                  try clear p2
                  try clear q168
                  try clear q169
                  obtain ⟨x47_3, rfl, HA, HK3, HO_9, HB⟩ := hrel
                  cases gk with
                  | zero => exact absurd HA.out (by simp [footlockerlaw01_GfRows.l1])
                  | succ k3 =>
                    have H := HA.out
                    clear HA
                    simp only [footlockerlaw01_GfRows.l1] at H
                    by_cases c18 : x47_3 < (t171.length : Int)
                    · rw [if_pos c18] at H
                      have c18b0 : decide (x47_3 < (t171.length : Int)) = true := decide_eq_true c18
                      clear c18
                      by_cases c19 : x47_3 ≥ (l0.length : Int)
                      · rw [if_pos c19] at H
                        have c19b0 : decide ((l0.length : Int) ≤ x47_3) = true := decide_eq_true c19
                        clear c19
                        obtain rfl := Option.some.inj H
                        go_wp2
                        repeat (go_quiet (fail); try go_wp2)
                        go_ret
                        exact ⟨by first | rfl | (simp [errW_none, errW_some] <;> rfl) | (simp [*, errW_none, errW_some] <;> rfl), by repeat (first | (with_reducible first | exact HB.out | apply below_alloc | apply pw_below_drewN | apply below_drew1) | exact HB.out)⟩
                      · rw [if_neg c19] at H
                        have c19b0 : decide ((l0.length : Int) ≤ x47_3) = false := decide_eq_false c19
                        clear c19
                        by_cases c20 : 0 ≤ x47_3
                        · rw [if_pos c20] at H
                          have c20b0 : decide (0 ≤ x47_3) = true := decide_eq_true c20
                          clear c20
                          by_cases c21 : x47_3 < (t171.length : Int)
                          · rw [if_pos c21] at H
                            have c21b0 : decide (x47_3 < (t171.length : Int)) = true := decide_eq_true c21
                            clear c21
                            by_cases c22 : x47_3 < (l0.length : Int)
                            · rw [if_pos c22] at H
                              have c22b0 : decide (x47_3 < (l0.length : Int)) = true := decide_eq_true c22
                              clear c22
                              replace H := Option.bind_eq_some_iff.mp H
                              obtain ⟨t176, A230, H⟩ := H
                              replace H : (if (rd t171 x47_3) = t176 then (footlockerlaw01_GfRows.l1 k3 l0 l1 a2 x7_2 t171 (t171.length : Int) (wrap64 (x47_3 + 1))) else (some false)) = some r := H
                              have A23 := Aside0.mk A230
                              clear A230
                              by_cases c24 : (rd t171 x47_3) = t176
                              · rw [if_pos c24] at H
                                have c24b0 : ((rd t171 x47_3) == t176) = true := beq_iff_eq.mpr c24
                                have c24b1 : ((rd t171 x47_3) != t176) = false := bne_eq_false_iff_eq.mpr c24
                                clear c24
                                have H' := Aside0.mk H
                                clear H
                                have p174 : 0 ≤ (x47_3 : Int) := of_decide_eq_true (by first | (with_reducible assumption) | assumption)
                                have q174 : x47_3 < (t171.length : Int) := of_decide_eq_true (by first | (with_reducible assumption) | assumption)
                                obtain ⟨ad174, e174, hx174_0⟩ := Kd.at_int (Kd.R_reads' HO_9.out).2.2 x47_3 p174 q174
                                cases e174
                                replace p174 := eq_true p174
                                replace q174 := eq_true q174
                                have p175 : 0 ≤ (x47_3 : Int) := of_decide_eq_true (by first | (with_reducible assumption) | assumption)
                                have q175 : x47_3 < (l0.length : Int) := of_decide_eq_true (by first | (with_reducible assumption) | assumption)
                                obtain ⟨ad175, e175, hx175_0⟩ := Kd.at_int HR0.out x47_3 p175 q175
                                cases e175
                                replace hx175_0 := (HB.out.cell (World.block_lt_of_cell? w _ hx175_0)).trans hx175_0
                                replace p175 := eq_true p175
                                replace q175 := eq_true q175
                                go_wp2_with (first | (go_at_call 13; (with_reducible refine (footlockerref01_Mul.calls k3 (rd l0 x47_3) a2 t176 _ A23.out).mono ?_); rintro e w' ⟨rfl, ⟨nd, rfl⟩⟩; (try first | exact ⟨rfl, _, World.drewN_drewN _ _ _⟩ | exact ⟨rfl, _, Eq.trans (World.drewN_drewN _ _ _) (congrArg (World.drewN _) (Nat.add_assoc _ _ _))⟩)))
                                repeat (go_quiet (first | (go_at_call 13; (with_reducible refine (footlockerref01_Mul.calls k3 (rd l0 x47_3) a2 t176 _ A23.out).mono ?_); rintro e w' ⟨rfl, ⟨nd, rfl⟩⟩; (try first | exact ⟨rfl, _, World.drewN_drewN _ _ _⟩ | exact ⟨rfl, _, Eq.trans (World.drewN_drewN _ _ _) (congrArg (World.drewN _) (Nat.add_assoc _ _ _))⟩))); try go_wp2_with (first | (go_at_call 13; (with_reducible refine (footlockerref01_Mul.calls k3 (rd l0 x47_3) a2 t176 _ A23.out).mono ?_); rintro e w' ⟨rfl, ⟨nd, rfl⟩⟩; (try first | exact ⟨rfl, _, World.drewN_drewN _ _ _⟩ | exact ⟨rfl, _, Eq.trans (World.drewN_drewN _ _ _) (congrArg (World.drewN _) (Nat.add_assoc _ _ _))⟩))))
                                go_roundg k3
                                case measure => have := HJ5.out; have := HK2.out; have := HK3.out; omega
                                case rel => exact ⟨(wrap64 (x47_3 + 1)), (by first | rfl | (simp; done) | (simp [*]; done)), H', ⟨by have := HJ5.out; have := HK2.out; have := HK3.out; omega⟩, ⟨by (with_reducible repeat (first | apply Kd.R_alloc | apply Kd.R_drewN | apply Kd.R_drew)); exact HO_9.out⟩, ⟨by repeat (first | (with_reducible first | exact HB.out | apply below_alloc | apply pw_below_drewN | apply below_drew1) | exact HB.out)⟩⟩
                              · rw [if_neg c24] at H
                                have c24b0 : ((rd t171 x47_3) == t176) = false := beq_eq_false_iff_ne.mpr c24
                                have c24b1 : ((rd t171 x47_3) != t176) = true := bne_iff_ne.mpr c24
                                obtain rfl := Option.some.inj H
                                have p174 : 0 ≤ (x47_3 : Int) := of_decide_eq_true (by first | (with_reducible assumption) | assumption)
                                have q174 : x47_3 < (t171.length : Int) := of_decide_eq_true (by first | (with_reducible assumption) | assumption)
                                obtain ⟨ad174, e174, hx174_0⟩ := Kd.at_int (Kd.R_reads' HO_9.out).2.2 x47_3 p174 q174
                                cases e174
                                replace p174 := eq_true p174
                                replace q174 := eq_true q174
                                have p175 : 0 ≤ (x47_3 : Int) := of_decide_eq_true (by first | (with_reducible assumption) | assumption)
                                have q175 : x47_3 < (l0.length : Int) := of_decide_eq_true (by first | (with_reducible assumption) | assumption)
                                obtain ⟨ad175, e175, hx175_0⟩ := Kd.at_int HR0.out x47_3 p175 q175
                                cases e175
                                replace hx175_0 := (HB.out.cell (World.block_lt_of_cell? w _ hx175_0)).trans hx175_0
                                replace p175 := eq_true p175
                                replace q175 := eq_true q175
                                go_wp2_with (first | (go_at_call 13; (with_reducible refine (footlockerref01_Mul.calls k3 (rd l0 x47_3) a2 t176 _ A23.out).mono ?_); rintro e w' ⟨rfl, ⟨nd, rfl⟩⟩; (try first | exact ⟨rfl, _, World.drewN_drewN _ _ _⟩ | exact ⟨rfl, _, Eq.trans (World.drewN_drewN _ _ _) (congrArg (World.drewN _) (Nat.add_assoc _ _ _))⟩)))
                                repeat (go_quiet (first | (go_at_call 13; (with_reducible refine (footlockerref01_Mul.calls k3 (rd l0 x47_3) a2 t176 _ A23.out).mono ?_); rintro e w' ⟨rfl, ⟨nd, rfl⟩⟩; (try first | exact ⟨rfl, _, World.drewN_drewN _ _ _⟩ | exact ⟨rfl, _, Eq.trans (World.drewN_drewN _ _ _) (congrArg (World.drewN _) (Nat.add_assoc _ _ _))⟩))); try go_wp2_with (first | (go_at_call 13; (with_reducible refine (footlockerref01_Mul.calls k3 (rd l0 x47_3) a2 t176 _ A23.out).mono ?_); rintro e w' ⟨rfl, ⟨nd, rfl⟩⟩; (try first | exact ⟨rfl, _, World.drewN_drewN _ _ _⟩ | exact ⟨rfl, _, Eq.trans (World.drewN_drewN _ _ _) (congrArg (World.drewN _) (Nat.add_assoc _ _ _))⟩))))
                                go_ret
                                exact ⟨by first | rfl | (simp [errW_none, errW_some] <;> rfl) | (simp [*, errW_none, errW_some] <;> rfl), by repeat (first | (with_reducible first | exact HB.out | apply below_alloc | apply pw_below_drewN | apply below_drew1) | exact HB.out)⟩
                            · rw [if_neg c22] at H
                              exact absurd H (by simp)
                          · rw [if_neg c21] at H
                            exact absurd H (by simp)
                        · rw [if_neg c20] at H
                          exact absurd H (by simp)
                    · rw [if_neg c18] at H
                      have c18b0 : decide (x47_3 < (t171.length : Int)) = false := decide_eq_false c18
                      clear c18
                      replace H := Option.bind_eq_some_iff.mp H
                      obtain ⟨t177, A250, H⟩ := H
                      replace H : (if t177 = x7_2 then (some ((t171.length : Int) == (l0.length : Int))) else (some false)) = some r := H
                      have A25 := Aside0.mk A250
                      clear A250
                      by_cases c26 : t177 = x7_2
                      · rw [if_pos c26] at H
                        have c26b0 : (t177 == x7_2) = true := beq_iff_eq.mpr c26
                        have c26b1 : (t177 != x7_2) = false := bne_eq_false_iff_eq.mpr c26
                        clear c26
                        obtain rfl := Option.some.inj H
                        go_wp2_with (first | (go_at_call 21; (with_reducible refine (gf_Dot.calls k3 _ _ l0 _ _ l1 t177 _ ?side1 ?side2 ?side3 ?side4 A25.out).mono ?_); (case side1 => repeat (first | exact (Kd.C_below HR0.out HB.out) | (with_reducible refine Kd.C_alloc ?_ _) | (with_reducible refine Kd.C_drewN ?_ _) | (with_reducible refine Kd.C_drew ?_))); (case side2 => exact HC0.out); (case side3 => repeat (first | exact (Kd.C_below HR1.out HB.out) | (with_reducible refine Kd.C_alloc ?_ _) | (with_reducible refine Kd.C_drewN ?_ _) | (with_reducible refine Kd.C_drew ?_))); (case side4 => exact HC1.out); rintro e w27 ⟨rfl, hb⟩; have n0_ := Aside0.mk (Kd.R_below (by (with_reducible repeat (first | apply Kd.R_alloc | apply Kd.R_drewN | apply Kd.R_drew)); exact HO_9.out) hb); have n1_ := Aside0.mk (below_step (by repeat (first | (with_reducible first | exact HB.out | apply below_alloc | apply pw_below_drewN | apply below_drew1) | exact HB.out)) hb); clear HO_9; clear HB; have HO_9 := n0_; have HB := n1_; clear n0_ n1_; (try clear hb); (try clear hb2); (try clear hk); (try clear hi)))
                        repeat (go_quiet (first | (go_at_call 21; (with_reducible refine (gf_Dot.calls k3 _ _ l0 _ _ l1 t177 _ ?side1 ?side2 ?side3 ?side4 A25.out).mono ?_); (case side1 => repeat (first | exact (Kd.C_below HR0.out HB.out) | (with_reducible refine Kd.C_alloc ?_ _) | (with_reducible refine Kd.C_drewN ?_ _) | (with_reducible refine Kd.C_drew ?_))); (case side2 => exact HC0.out); (case side3 => repeat (first | exact (Kd.C_below HR1.out HB.out) | (with_reducible refine Kd.C_alloc ?_ _) | (with_reducible refine Kd.C_drewN ?_ _) | (with_reducible refine Kd.C_drew ?_))); (case side4 => exact HC1.out); rintro e w27 ⟨rfl, hb⟩; have n0_ := Aside0.mk (Kd.R_below (by (with_reducible repeat (first | apply Kd.R_alloc | apply Kd.R_drewN | apply Kd.R_drew)); exact HO_9.out) hb); have n1_ := Aside0.mk (below_step (by repeat (first | (with_reducible first | exact HB.out | apply below_alloc | apply pw_below_drewN | apply below_drew1) | exact HB.out)) hb); clear HO_9; clear HB; have HO_9 := n0_; have HB := n1_; clear n0_ n1_; (try clear hb); (try clear hb2); (try clear hk); (try clear hi))); try go_wp2_with (first | (go_at_call 21; (with_reducible refine (gf_Dot.calls k3 _ _ l0 _ _ l1 t177 _ ?side1 ?side2 ?side3 ?side4 A25.out).mono ?_); (case side1 => repeat (first | exact (Kd.C_below HR0.out HB.out) | (with_reducible refine Kd.C_alloc ?_ _) | (with_reducible refine Kd.C_drewN ?_ _) | (with_reducible refine Kd.C_drew ?_))); (case side2 => exact HC0.out); (case side3 => repeat (first | exact (Kd.C_below HR1.out HB.out) | (with_reducible refine Kd.C_alloc ?_ _) | (with_reducible refine Kd.C_drewN ?_ _) | (with_reducible refine Kd.C_drew ?_))); (case side4 => exact HC1.out); rintro e w27 ⟨rfl, hb⟩; have n0_ := Aside0.mk (Kd.R_below (by (with_reducible repeat (first | apply Kd.R_alloc | apply Kd.R_drewN | apply Kd.R_drew)); exact HO_9.out) hb); have n1_ := Aside0.mk (below_step (by repeat (first | (with_reducible first | exact HB.out | apply below_alloc | apply pw_below_drewN | apply below_drew1) | exact HB.out)) hb); clear HO_9; clear HB; have HO_9 := n0_; have HB := n1_; clear n0_ n1_; (try clear hb); (try clear hb2); (try clear hk); (try clear hi))))
                        go_ret
                        exact ⟨by first | rfl | (simp [errW_none, errW_some] <;> rfl) | (simp [*, errW_none, errW_some] <;> rfl), by repeat (first | (with_reducible first | exact HB.out | apply below_alloc | apply pw_below_drewN | apply below_drew1) | exact HB.out)⟩
                      · rw [if_neg c26] at H
                        have c26b0 : (t177 == x7_2) = false := beq_eq_false_iff_ne.mpr c26
                        have c26b1 : (t177 != x7_2) = true := bne_iff_ne.mpr c26
                        obtain rfl := Option.some.inj H
                        go_wp2_with (first | (go_at_call 21; (with_reducible refine (gf_Dot.calls k3 _ _ l0 _ _ l1 t177 _ ?side1 ?side2 ?side3 ?side4 A25.out).mono ?_); (case side1 => repeat (first | exact (Kd.C_below HR0.out HB.out) | (with_reducible refine Kd.C_alloc ?_ _) | (with_reducible refine Kd.C_drewN ?_ _) | (with_reducible refine Kd.C_drew ?_))); (case side2 => exact HC0.out); (case side3 => repeat (first | exact (Kd.C_below HR1.out HB.out) | (with_reducible refine Kd.C_alloc ?_ _) | (with_reducible refine Kd.C_drewN ?_ _) | (with_reducible refine Kd.C_drew ?_))); (case side4 => exact HC1.out); rintro e w28 ⟨rfl, hb⟩; have n0_ := Aside0.mk (Kd.R_below (by (with_reducible repeat (first | apply Kd.R_alloc | apply Kd.R_drewN | apply Kd.R_drew)); exact HO_9.out) hb); have n1_ := Aside0.mk (below_step (by repeat (first | (with_reducible first | exact HB.out | apply below_alloc | apply pw_below_drewN | apply below_drew1) | exact HB.out)) hb); clear HO_9; clear HB; have HO_9 := n0_; have HB := n1_; clear n0_ n1_; (try clear hb); (try clear hb2); (try clear hk); (try clear hi)))
                        repeat (go_quiet (first | (go_at_call 21; (with_reducible refine (gf_Dot.calls k3 _ _ l0 _ _ l1 t177 _ ?side1 ?side2 ?side3 ?side4 A25.out).mono ?_); (case side1 => repeat (first | exact (Kd.C_below HR0.out HB.out) | (with_reducible refine Kd.C_alloc ?_ _) | (with_reducible refine Kd.C_drewN ?_ _) | (with_reducible refine Kd.C_drew ?_))); (case side2 => exact HC0.out); (case side3 => repeat (first | exact (Kd.C_below HR1.out HB.out) | (with_reducible refine Kd.C_alloc ?_ _) | (with_reducible refine Kd.C_drewN ?_ _) | (with_reducible refine Kd.C_drew ?_))); (case side4 => exact HC1.out); rintro e w28 ⟨rfl, hb⟩; have n0_ := Aside0.mk (Kd.R_below (by (with_reducible repeat (first | apply Kd.R_alloc | apply Kd.R_drewN | apply Kd.R_drew)); exact HO_9.out) hb); have n1_ := Aside0.mk (below_step (by repeat (first | (with_reducible first | exact HB.out | apply below_alloc | apply pw_below_drewN | apply below_drew1) | exact HB.out)) hb); clear HO_9; clear HB; have HO_9 := n0_; have HB := n1_; clear n0_ n1_; (try clear hb); (try clear hb2); (try clear hk); (try clear hi))); try go_wp2_with (first | (go_at_call 21; (with_reducible refine (gf_Dot.calls k3 _ _ l0 _ _ l1 t177 _ ?side1 ?side2 ?side3 ?side4 A25.out).mono ?_); (case side1 => repeat (first | exact (Kd.C_below HR0.out HB.out) | (with_reducible refine Kd.C_alloc ?_ _) | (with_reducible refine Kd.C_drewN ?_ _) | (with_reducible refine Kd.C_drew ?_))); (case side2 => exact HC0.out); (case side3 => repeat (first | exact (Kd.C_below HR1.out HB.out) | (with_reducible refine Kd.C_alloc ?_ _) | (with_reducible refine Kd.C_drewN ?_ _) | (with_reducible refine Kd.C_drew ?_))); (case side4 => exact HC1.out); rintro e w28 ⟨rfl, hb⟩; have n0_ := Aside0.mk (Kd.R_below (by (with_reducible repeat (first | apply Kd.R_alloc | apply Kd.R_drewN | apply Kd.R_drew)); exact HO_9.out) hb); have n1_ := Aside0.mk (below_step (by repeat (first | (with_reducible first | exact HB.out | apply below_alloc | apply pw_below_drewN | apply below_drew1) | exact HB.out)) hb); clear HO_9; clear HB; have HO_9 := n0_; have HB := n1_; clear n0_ n1_; (try clear hb); (try clear hb2); (try clear hk); (try clear hi))))
                        go_ret
                        exact ⟨by first | rfl | (simp [errW_none, errW_some] <;> rfl) | (simp [*, errW_none, errW_some] <;> rfl), by repeat (first | (with_reducible first | exact HB.out | apply below_alloc | apply pw_below_drewN | apply below_drew1) | exact HB.out)⟩
  · replace c5 := Bool.eq_false_iff.mpr c5
    subst c5
    have H1 : (some false) = some r := by rw [if_neg (show ¬ (false = true) by decide)] at H; exact H
    clear H
    have H := H1
    clear H1
    obtain rfl := Option.some.inj H
    go_enter Try.func4, Try.ntmps4
    go_wp2_with (first | (go_at_call 9; (with_reducible refine (footlockerlaw01_alive.calls k  false _ A4.out).mono ?_); rintro e w29 ⟨rfl, hb⟩; have n0_ := Aside0.mk (below_step (by repeat (first | (with_reducible first | exact HB.out | apply below_alloc | apply pw_below_drewN | apply below_drew1) | exact HB.out)) hb); clear HB; have HB := n0_; clear n0_; (try clear hb); (try clear hb2); (try clear hk); (try clear hi)))
    repeat (go_quiet (first | (go_at_call 9; (with_reducible refine (footlockerlaw01_alive.calls k  false _ A4.out).mono ?_); rintro e w29 ⟨rfl, hb⟩; have n0_ := Aside0.mk (below_step (by repeat (first | (with_reducible first | exact HB.out | apply below_alloc | apply pw_below_drewN | apply below_drew1) | exact HB.out)) hb); clear HB; have HB := n0_; clear n0_; (try clear hb); (try clear hb2); (try clear hk); (try clear hi))); try go_wp2_with (first | (go_at_call 9; (with_reducible refine (footlockerlaw01_alive.calls k  false _ A4.out).mono ?_); rintro e w29 ⟨rfl, hb⟩; have n0_ := Aside0.mk (below_step (by repeat (first | (with_reducible first | exact HB.out | apply below_alloc | apply pw_below_drewN | apply below_drew1) | exact HB.out)) hb); clear HB; have HB := n0_; clear n0_; (try clear hb); (try clear hb2); (try clear hk); (try clear hi))))
    go_ret
    exact ⟨by first | rfl | (simp [errW_none, errW_some] <;> rfl) | (simp [*, errW_none, errW_some] <;> rfl), by repeat (first | (with_reducible first | exact HB.out | apply below_alloc | apply pw_below_drewN | apply below_drew1) | exact HB.out)⟩

/-- THE ONE PURE STATEMENT of footlockerlaw01_GfRows: yours. -/
def footlockerlaw01_GfRows.Pure : Prop := ∀ (l0 : List Int) (l1 : List Int) (a2 : Int), l0.length ≤ maxLen → l0.length * 1 ≤ 140737488351232 → (∀ x ∈ l0, (Lit.int .u8 x).wf = true) → l1.length ≤ maxLen → l1.length * 1 ≤ 140737488351232 → (∀ x ∈ l1, (Lit.int .u8 x).wf = true) → (Lit.int .u8 a2).wf = true → ∃ k, footlockerlaw01_GfRows.f k l0 l1 a2 = some true
theorem footlockerlaw01_GfRows.walk (P : footlockerlaw01_GfRows.Pure) (a0 : Option Addr) (len0 cap0 : Nat) (z0 : List Int) (a1 : Option Addr) (len1 cap1 : Nat) (z1 : List Int) (a2 : Int) (w : World) (w0 : (a0 = none ∧ len0 = 0 ∧ cap0 = 0 ∧ z0 = []) ∨ ∃ x, a0 = some x ∧ len0 ≤ cap0 ∧ cap0 ≤ maxLen ∧ z0.length = cap0 ∧ (∀ i, i < z0.length → w.cell? (x.add i) = some (.int .u8 (z0.getD i 0))) ∧ ∀ n ∈ z0, (Lit.int .u8 n).wf = true) (y0 : len0 * 1 ≤ 140737488351232) (w1 : (a1 = none ∧ len1 = 0 ∧ cap1 = 0 ∧ z1 = []) ∨ ∃ x, a1 = some x ∧ len1 ≤ cap1 ∧ cap1 ≤ maxLen ∧ z1.length = cap1 ∧ (∀ i, i < z1.length → w.cell? (x.add i) = some (.int .u8 (z1.getD i 0))) ∧ ∀ n ∈ z1, (Lit.int .u8 n).wf = true) (y1 : len1 * 1 ≤ 140737488351232) (w2 : (Lit.int .u8 a2).wf = true) :
    Calls Try.prog 4 #[.slice a0 len0 cap0, .slice a1 len1 cap1, .int .u8 a2] w fun e w' => e = .returned (.bool true) ∧ Below w.heap.size w w' := by
  obtain ⟨l0, rfl, hr0, hm0, hw0, hc0⟩ := ReadsInt.ofRowC w0
  obtain ⟨l1, rfl, hr1, hm1, hw1, hc1⟩ := ReadsInt.ofRowC w1
  obtain ⟨k, h⟩ := P l0 l1 a2 hm0 y0 hw0 hm1 y1 hw1 w2
  refine (footlockerlaw01_GfRows.calls k _ _ l0 _ _ l1 a2 true w (Kd.C_of_reads (d := (0 : Int)) (h1 := fun _ => rfl) hr0) hc0 (Kd.C_of_reads (d := (0 : Int)) (h1 := fun _ => rfl) hr1) hc1 h).mono ?_
  rintro e w' ⟨rfl, hd⟩
  exact ⟨rfl, hd⟩

/-! ### footlockerlaw01_GfPowers: function 6 -/
def footlockerlaw01_GfPowers.j0 : Nat → Int → Int → Bool → Option (Bool)
  | 0, _, _, _ => none
  | k + 1, x0, x1, x55 => if x55 = true then (some false) else (if x1 = 0 then (some true) else ((gf_Mul.f k x0 x1).bind fun t188 => ((gf_Log.f k t188).bind fun t189 => ((gf_Log.f k x0).bind fun t190 => ((gf_Log.f k x1).bind fun t191 => (some (t189 == (Int.tmod (wrap64 (t190 + t191)) 255))))))))
def footlockerlaw01_GfPowers.f (k : Nat) (a0 : Int) (a1 : Int) (a2 : Int) (a3 : Int) : Option (Bool) := (footlockerlaw01_alive.f k).bind fun t178 => (if t178 = true then (if a0 = 0 then ((gf_Pow.f k a0 (Int.tmod a2 100000)).bind fun t179 => (if t179 = 0 then (some true) else (some ((Int.tmod a2 100000) == 0)))) else ((gf_Pow.f k a0 (Int.tmod a2 100000)).bind fun t180 => ((gf_Pow.f k a0 (Int.tmod a3 100000)).bind fun t181 => ((gf_Mul.f k t180 t181).bind fun t182 => ((gf_Pow.f k a0 (wrap64 ((Int.tmod a2 100000) + (Int.tmod a3 100000)))).bind fun t183 => (if t182 = t183 then ((gf_Pow.f k a0 (Int.tmod a2 100000)).bind fun t184 => ((gf_Pow.f k t184 (Int.tmod a3 100000)).bind fun t185 => ((gf_Pow.f k a0 (wrap64 ((Int.tmod a2 100000) * (Int.tmod a3 100000)))).bind fun t186 => (if t185 = t186 then ((gf_Pow.f k a0 255).bind fun t187 => (footlockerlaw01_GfPowers.j0 k a0 a1 (t187 != 1))) else (footlockerlaw01_GfPowers.j0 k a0 a1 true))))) else (footlockerlaw01_GfPowers.j0 k a0 a1 true))))))) else (some false))
theorem footlockerlaw01_GfPowers.mono_l : ∀ k, (∀ y0 y1 y2, LeO (footlockerlaw01_GfPowers.j0 k y0 y1 y2) (footlockerlaw01_GfPowers.j0 (k + 1) y0 y1 y2))
  | 0 => fun _ _ _ r h => by simp [footlockerlaw01_GfPowers.j0] at h
  | k + 1 => by
    have ih0 := footlockerlaw01_GfPowers.mono_l k
    · intro y0 y1 y2
      unfold footlockerlaw01_GfPowers.j0
      repeat' first
      | (with_reducible exact ih0 _ _ _)
      | (with_reducible exact footlockerlaw01_alive.mono _)
      | (with_reducible exact gf_Log.mono _ _)
      | (with_reducible exact gf_Mul.mono _ _ _)
      | (with_reducible exact gf_Pow.mono _ _ _)
      | (with_reducible exact LeO.refl _)
      | (with_reducible exact LeO.none _)
      | (with_reducible refine LeO.ite ?_ ?_)
      | (with_reducible refine LeO.bind ?_ (fun _ => ?_))
      | exact ih0 _ _ _
      | exact footlockerlaw01_alive.mono _
      | exact gf_Log.mono _ _
      | exact gf_Mul.mono _ _ _
      | exact gf_Pow.mono _ _ _
      | exact LeO.none _
      | refine LeO.ite ?_ ?_
      | refine LeO.bind ?_ (fun _ => ?_)
theorem footlockerlaw01_GfPowers.mono : ∀ a0 a1 a2 a3 k, LeO (footlockerlaw01_GfPowers.f k a0 a1 a2 a3) (footlockerlaw01_GfPowers.f (k + 1) a0 a1 a2 a3) := by
  intro a0 a1 a2 a3 k
  have ih0 := footlockerlaw01_GfPowers.mono_l k
  unfold footlockerlaw01_GfPowers.f
  repeat' first
      | (with_reducible exact ih0 _ _ _)
      | (with_reducible exact footlockerlaw01_alive.mono _)
      | (with_reducible exact gf_Log.mono _ _)
      | (with_reducible exact gf_Mul.mono _ _ _)
      | (with_reducible exact gf_Pow.mono _ _ _)
      | (with_reducible exact LeO.refl _)
      | (with_reducible exact LeO.none _)
      | (with_reducible refine LeO.ite ?_ ?_)
      | (with_reducible refine LeO.bind ?_ (fun _ => ?_))
      | exact ih0 _ _ _
      | exact footlockerlaw01_alive.mono _
      | exact gf_Log.mono _ _
      | exact gf_Mul.mono _ _ _
      | exact gf_Pow.mono _ _ _
      | exact LeO.none _
      | refine LeO.ite ?_ ?_
      | refine LeO.bind ?_ (fun _ => ?_)
set_option maxHeartbeats 8000000 in
set_option maxRecDepth 100000 in
theorem footlockerlaw01_GfPowers.calls (k : Nat) (a0 : Int) (a1 : Int) (a2 : Int) (a3 : Int) (r : Bool) (w : World) (h : footlockerlaw01_GfPowers.f k a0 a1 a2 a3 = some r) :
    Calls Try.prog 6 #[.int .u8 a0, .int .u8 a1, .int .i64 a2, .int .i64 a3] w fun e w' => e = .returned (.bool r) ∧ Below w.heap.size w w' := by
  have HB := Aside0.mk (Below.refl w.heap.size w)
  have H : ((footlockerlaw01_alive.f k).bind fun t178 => (if t178 = true then (if a0 = 0 then ((gf_Pow.f k a0 (Int.tmod a2 100000)).bind fun t179 => (if t179 = 0 then (some true) else (some ((Int.tmod a2 100000) == 0)))) else ((gf_Pow.f k a0 (Int.tmod a2 100000)).bind fun t180 => ((gf_Pow.f k a0 (Int.tmod a3 100000)).bind fun t181 => ((gf_Mul.f k t180 t181).bind fun t182 => ((gf_Pow.f k a0 (wrap64 ((Int.tmod a2 100000) + (Int.tmod a3 100000)))).bind fun t183 => (if t182 = t183 then ((gf_Pow.f k a0 (Int.tmod a2 100000)).bind fun t184 => ((gf_Pow.f k t184 (Int.tmod a3 100000)).bind fun t185 => ((gf_Pow.f k a0 (wrap64 ((Int.tmod a2 100000) * (Int.tmod a3 100000)))).bind fun t186 => (if t185 = t186 then ((gf_Pow.f k a0 255).bind fun t187 => (footlockerlaw01_GfPowers.j0 k a0 a1 (t187 != 1))) else (footlockerlaw01_GfPowers.j0 k a0 a1 true))))) else (footlockerlaw01_GfPowers.j0 k a0 a1 true))))))) else (some false))) = some r := h
  clear h
  replace H := Option.bind_eq_some_iff.mp H
  obtain ⟨t178, A50, H⟩ := H
  replace H : (if t178 = true then (if a0 = 0 then ((gf_Pow.f k a0 (Int.tmod a2 100000)).bind fun t179 => (if t179 = 0 then (some true) else (some ((Int.tmod a2 100000) == 0)))) else ((gf_Pow.f k a0 (Int.tmod a2 100000)).bind fun t180 => ((gf_Pow.f k a0 (Int.tmod a3 100000)).bind fun t181 => ((gf_Mul.f k t180 t181).bind fun t182 => ((gf_Pow.f k a0 (wrap64 ((Int.tmod a2 100000) + (Int.tmod a3 100000)))).bind fun t183 => (if t182 = t183 then ((gf_Pow.f k a0 (Int.tmod a2 100000)).bind fun t184 => ((gf_Pow.f k t184 (Int.tmod a3 100000)).bind fun t185 => ((gf_Pow.f k a0 (wrap64 ((Int.tmod a2 100000) * (Int.tmod a3 100000)))).bind fun t186 => (if t185 = t186 then ((gf_Pow.f k a0 255).bind fun t187 => (footlockerlaw01_GfPowers.j0 k a0 a1 (t187 != 1))) else (footlockerlaw01_GfPowers.j0 k a0 a1 true))))) else (footlockerlaw01_GfPowers.j0 k a0 a1 true))))))) else (some false)) = some r := H
  have A5 := Aside0.mk A50
  clear A50
  by_cases c6 : t178 = true
  · subst c6
    have H1 : (if a0 = 0 then ((gf_Pow.f k a0 (Int.tmod a2 100000)).bind fun t179 => (if t179 = 0 then (some true) else (some ((Int.tmod a2 100000) == 0)))) else ((gf_Pow.f k a0 (Int.tmod a2 100000)).bind fun t180 => ((gf_Pow.f k a0 (Int.tmod a3 100000)).bind fun t181 => ((gf_Mul.f k t180 t181).bind fun t182 => ((gf_Pow.f k a0 (wrap64 ((Int.tmod a2 100000) + (Int.tmod a3 100000)))).bind fun t183 => (if t182 = t183 then ((gf_Pow.f k a0 (Int.tmod a2 100000)).bind fun t184 => ((gf_Pow.f k t184 (Int.tmod a3 100000)).bind fun t185 => ((gf_Pow.f k a0 (wrap64 ((Int.tmod a2 100000) * (Int.tmod a3 100000)))).bind fun t186 => (if t185 = t186 then ((gf_Pow.f k a0 255).bind fun t187 => (footlockerlaw01_GfPowers.j0 k a0 a1 (t187 != 1))) else (footlockerlaw01_GfPowers.j0 k a0 a1 true))))) else (footlockerlaw01_GfPowers.j0 k a0 a1 true))))))) = some r := by rw [if_pos rfl] at H; exact H
    clear H
    have H := H1
    clear H1
    by_cases c7 : a0 = 0
    · rw [if_pos c7] at H
      have c7b0 : (a0 == 0) = true := beq_iff_eq.mpr c7
      have c7b1 : (a0 != 0) = false := bne_eq_false_iff_eq.mpr c7
      clear c7
      replace H := Option.bind_eq_some_iff.mp H
      obtain ⟨t179, A80, H⟩ := H
      replace H : (if t179 = 0 then (some true) else (some ((Int.tmod a2 100000) == 0))) = some r := H
      have A8 := Aside0.mk A80
      clear A80
      by_cases c9 : t179 = 0
      · rw [if_pos c9] at H
        have c9b0 : (t179 == 0) = true := beq_iff_eq.mpr c9
        have c9b1 : (t179 != 0) = false := bne_eq_false_iff_eq.mpr c9
        clear c9
        obtain rfl := Option.some.inj H
        go_enter Try.func6, Try.ntmps6
        go_wp2_with (first | ((with_reducible refine gate_callee (f := 9) rfl ?_); refine goesL_ (some 9) rfl rfl Try.func9 (by kernel_rfl) rfl #[] rfl (by (try simp only [List.map_toArray, List.map_cons, List.map_nil]); first | done | rfl | (simp only [List.length_drop, List.length_take]; rfl)) ?_; (with_reducible refine (footlockerlaw01_alive.calls k  true _ A5.out).mono ?_); rintro e w10 ⟨rfl, hb⟩; refine ⟨_, rfl, ?_⟩; have n0_ := Aside0.mk (below_step (by repeat (first | (with_reducible first | exact HB.out | apply below_alloc | apply pw_below_drewN | apply below_drew1) | exact HB.out)) hb); clear HB; have HB := n0_; clear n0_; (try clear hb); (try clear hb2); (try clear hk); (try clear hi)) | ((with_reducible refine gate_callee (f := 18) rfl ?_); refine goesL_ (some 19) rfl rfl Try.func18 (by kernel_rfl) rfl #[.int .u8 a0, .int .i64 (Int.tmod a2 100000)] rfl (by (try simp only [List.map_toArray, List.map_cons, List.map_nil]); first | done | rfl | (simp only [List.length_drop, List.length_take]; rfl)) ?_; (with_reducible refine (gf_Pow.calls k a0 (Int.tmod a2 100000) t179 _ A8.out).mono ?_); rintro e w' ⟨rfl, ⟨nd, rfl⟩⟩; refine ⟨_, rfl, ?_⟩))
        go_ret
        exact ⟨by first | rfl | (simp [errW_none, errW_some] <;> rfl) | (simp [*, errW_none, errW_some] <;> rfl), by repeat (first | (with_reducible first | exact HB.out | apply below_alloc | apply pw_below_drewN | apply below_drew1) | exact HB.out)⟩
      · rw [if_neg c9] at H
        have c9b0 : (t179 == 0) = false := beq_eq_false_iff_ne.mpr c9
        have c9b1 : (t179 != 0) = true := bne_iff_ne.mpr c9
        obtain rfl := Option.some.inj H
        go_enter Try.func6, Try.ntmps6
        go_wp2_with (first | ((with_reducible refine gate_callee (f := 9) rfl ?_); refine goesL_ (some 9) rfl rfl Try.func9 (by kernel_rfl) rfl #[] rfl (by (try simp only [List.map_toArray, List.map_cons, List.map_nil]); first | done | rfl | (simp only [List.length_drop, List.length_take]; rfl)) ?_; (with_reducible refine (footlockerlaw01_alive.calls k  true _ A5.out).mono ?_); rintro e w11 ⟨rfl, hb⟩; refine ⟨_, rfl, ?_⟩; have n0_ := Aside0.mk (below_step (by repeat (first | (with_reducible first | exact HB.out | apply below_alloc | apply pw_below_drewN | apply below_drew1) | exact HB.out)) hb); clear HB; have HB := n0_; clear n0_; (try clear hb); (try clear hb2); (try clear hk); (try clear hi)) | ((with_reducible refine gate_callee (f := 18) rfl ?_); refine goesL_ (some 19) rfl rfl Try.func18 (by kernel_rfl) rfl #[.int .u8 a0, .int .i64 (Int.tmod a2 100000)] rfl (by (try simp only [List.map_toArray, List.map_cons, List.map_nil]); first | done | rfl | (simp only [List.length_drop, List.length_take]; rfl)) ?_; (with_reducible refine (gf_Pow.calls k a0 (Int.tmod a2 100000) t179 _ A8.out).mono ?_); rintro e w' ⟨rfl, ⟨nd, rfl⟩⟩; refine ⟨_, rfl, ?_⟩))
        go_ret
        exact ⟨by first | rfl | (simp [errW_none, errW_some] <;> rfl) | (simp [*, errW_none, errW_some] <;> rfl), by repeat (first | (with_reducible first | exact HB.out | apply below_alloc | apply pw_below_drewN | apply below_drew1) | exact HB.out)⟩
    · rw [if_neg c7] at H
      have c7b0 : (a0 == 0) = false := beq_eq_false_iff_ne.mpr c7
      have c7b1 : (a0 != 0) = true := bne_iff_ne.mpr c7
      have HC12 := Aside0.mk H
      clear H
      go_enter Try.func6, Try.ntmps6
      go_upto_region 6 with (first | ((with_reducible refine gate_callee (f := 9) rfl ?_); refine goesL_ (some 9) rfl rfl Try.func9 (by kernel_rfl) rfl #[] rfl (by (try simp only [List.map_toArray, List.map_cons, List.map_nil]); first | done | rfl | (simp only [List.length_drop, List.length_take]; rfl)) ?_; (with_reducible refine (footlockerlaw01_alive.calls k  true _ A5.out).mono ?_); rintro e w13 ⟨rfl, hb⟩; refine ⟨_, rfl, ?_⟩; have n0_ := Aside0.mk (below_step (by repeat (first | (with_reducible first | exact HB.out | apply below_alloc | apply pw_below_drewN | apply below_drew1) | exact HB.out)) hb); clear HB; have HB := n0_; clear n0_; (try clear hb); (try clear hb2); (try clear hk); (try clear hi)))
      (try simp only [Act.put, List.setIfInBounds_toArray, List.set_cons_zero, List.set_cons_succ])
      go_cut [55] (fun v55 wc => ∃ (kq : Nat) (x55_11 : Bool), v55 = .bool x55_11 ∧ Aside0 (footlockerlaw01_GfPowers.j0 kq a0 a1 x55_11 = some r) ∧ Aside0 (kq ≤ k) ∧ Aside0 (Below w.heap.size w wc))
      case first =>
        have H := HC12.out
        clear HC12
        replace H := Option.bind_eq_some_iff.mp H
        obtain ⟨t180, A140, H⟩ := H
        replace H : ((gf_Pow.f k a0 (Int.tmod a3 100000)).bind fun t181 => ((gf_Mul.f k t180 t181).bind fun t182 => ((gf_Pow.f k a0 (wrap64 ((Int.tmod a2 100000) + (Int.tmod a3 100000)))).bind fun t183 => (if t182 = t183 then ((gf_Pow.f k a0 (Int.tmod a2 100000)).bind fun t184 => ((gf_Pow.f k t184 (Int.tmod a3 100000)).bind fun t185 => ((gf_Pow.f k a0 (wrap64 ((Int.tmod a2 100000) * (Int.tmod a3 100000)))).bind fun t186 => (if t185 = t186 then ((gf_Pow.f k a0 255).bind fun t187 => (footlockerlaw01_GfPowers.j0 k a0 a1 (t187 != 1))) else (footlockerlaw01_GfPowers.j0 k a0 a1 true))))) else (footlockerlaw01_GfPowers.j0 k a0 a1 true))))) = some r := H
        have A14 := Aside0.mk A140
        clear A140
        replace H := Option.bind_eq_some_iff.mp H
        obtain ⟨t181, A150, H⟩ := H
        replace H : ((gf_Mul.f k t180 t181).bind fun t182 => ((gf_Pow.f k a0 (wrap64 ((Int.tmod a2 100000) + (Int.tmod a3 100000)))).bind fun t183 => (if t182 = t183 then ((gf_Pow.f k a0 (Int.tmod a2 100000)).bind fun t184 => ((gf_Pow.f k t184 (Int.tmod a3 100000)).bind fun t185 => ((gf_Pow.f k a0 (wrap64 ((Int.tmod a2 100000) * (Int.tmod a3 100000)))).bind fun t186 => (if t185 = t186 then ((gf_Pow.f k a0 255).bind fun t187 => (footlockerlaw01_GfPowers.j0 k a0 a1 (t187 != 1))) else (footlockerlaw01_GfPowers.j0 k a0 a1 true))))) else (footlockerlaw01_GfPowers.j0 k a0 a1 true)))) = some r := H
        have A15 := Aside0.mk A150
        clear A150
        replace H := Option.bind_eq_some_iff.mp H
        obtain ⟨t182, A160, H⟩ := H
        replace H : ((gf_Pow.f k a0 (wrap64 ((Int.tmod a2 100000) + (Int.tmod a3 100000)))).bind fun t183 => (if t182 = t183 then ((gf_Pow.f k a0 (Int.tmod a2 100000)).bind fun t184 => ((gf_Pow.f k t184 (Int.tmod a3 100000)).bind fun t185 => ((gf_Pow.f k a0 (wrap64 ((Int.tmod a2 100000) * (Int.tmod a3 100000)))).bind fun t186 => (if t185 = t186 then ((gf_Pow.f k a0 255).bind fun t187 => (footlockerlaw01_GfPowers.j0 k a0 a1 (t187 != 1))) else (footlockerlaw01_GfPowers.j0 k a0 a1 true))))) else (footlockerlaw01_GfPowers.j0 k a0 a1 true))) = some r := H
        have A16 := Aside0.mk A160
        clear A160
        replace H := Option.bind_eq_some_iff.mp H
        obtain ⟨t183, A170, H⟩ := H
        replace H : (if t182 = t183 then ((gf_Pow.f k a0 (Int.tmod a2 100000)).bind fun t184 => ((gf_Pow.f k t184 (Int.tmod a3 100000)).bind fun t185 => ((gf_Pow.f k a0 (wrap64 ((Int.tmod a2 100000) * (Int.tmod a3 100000)))).bind fun t186 => (if t185 = t186 then ((gf_Pow.f k a0 255).bind fun t187 => (footlockerlaw01_GfPowers.j0 k a0 a1 (t187 != 1))) else (footlockerlaw01_GfPowers.j0 k a0 a1 true))))) else (footlockerlaw01_GfPowers.j0 k a0 a1 true)) = some r := H
        have A17 := Aside0.mk A170
        clear A170
        by_cases c18 : t182 = t183
        · rw [if_pos c18] at H
          have c18b0 : (t182 == t183) = true := beq_iff_eq.mpr c18
          have c18b1 : (t182 != t183) = false := bne_eq_false_iff_eq.mpr c18
          clear c18
          (first | rw [c18b0] | (simp only [i64_w, i32_w]; rw [c18b0]) | skip)
          replace H := Option.bind_eq_some_iff.mp H
          obtain ⟨t184, A190, H⟩ := H
          replace H : ((gf_Pow.f k t184 (Int.tmod a3 100000)).bind fun t185 => ((gf_Pow.f k a0 (wrap64 ((Int.tmod a2 100000) * (Int.tmod a3 100000)))).bind fun t186 => (if t185 = t186 then ((gf_Pow.f k a0 255).bind fun t187 => (footlockerlaw01_GfPowers.j0 k a0 a1 (t187 != 1))) else (footlockerlaw01_GfPowers.j0 k a0 a1 true)))) = some r := H
          have A19 := Aside0.mk A190
          clear A190
          replace H := Option.bind_eq_some_iff.mp H
          obtain ⟨t185, A200, H⟩ := H
          replace H : ((gf_Pow.f k a0 (wrap64 ((Int.tmod a2 100000) * (Int.tmod a3 100000)))).bind fun t186 => (if t185 = t186 then ((gf_Pow.f k a0 255).bind fun t187 => (footlockerlaw01_GfPowers.j0 k a0 a1 (t187 != 1))) else (footlockerlaw01_GfPowers.j0 k a0 a1 true))) = some r := H
          have A20 := Aside0.mk A200
          clear A200
          replace H := Option.bind_eq_some_iff.mp H
          obtain ⟨t186, A210, H⟩ := H
          replace H : (if t185 = t186 then ((gf_Pow.f k a0 255).bind fun t187 => (footlockerlaw01_GfPowers.j0 k a0 a1 (t187 != 1))) else (footlockerlaw01_GfPowers.j0 k a0 a1 true)) = some r := H
          have A21 := Aside0.mk A210
          clear A210
          by_cases c22 : t185 = t186
          · rw [if_pos c22] at H
            have c22b0 : (t185 == t186) = true := beq_iff_eq.mpr c22
            have c22b1 : (t185 != t186) = false := bne_eq_false_iff_eq.mpr c22
            clear c22
            replace H := Option.bind_eq_some_iff.mp H
            obtain ⟨t187, A230, H⟩ := H
            replace H : (footlockerlaw01_GfPowers.j0 k a0 a1 (t187 != 1)) = some r := H
            have A23 := Aside0.mk A230
            clear A230
            have H' := Aside0.mk H
            clear H
            go_wp2_with (first | ((with_reducible refine gate_callee (f := 18) rfl ?_); refine goesL_ (some 27) rfl rfl Try.func18 (by kernel_rfl) rfl #[.int .u8 a0, .int .i64 (Int.tmod a2 100000)] rfl (by (try simp only [List.map_toArray, List.map_cons, List.map_nil]); first | done | rfl | (simp only [List.length_drop, List.length_take]; rfl)) ?_; (with_reducible refine (gf_Pow.calls k a0 (Int.tmod a2 100000) t180 _ A14.out).mono ?_); rintro e w' ⟨rfl, ⟨nd, rfl⟩⟩; refine ⟨_, rfl, ?_⟩) | ((with_reducible refine gate_callee (f := 18) rfl ?_); refine goesL_ (some 30) rfl rfl Try.func18 (by kernel_rfl) rfl #[.int .u8 a0, .int .i64 (Int.tmod a3 100000)] rfl (by (try simp only [List.map_toArray, List.map_cons, List.map_nil]); first | done | rfl | (simp only [List.length_drop, List.length_take]; rfl)) ?_; (with_reducible refine (gf_Pow.calls k a0 (Int.tmod a3 100000) t181 _ A15.out).mono ?_); rintro e w' ⟨rfl, ⟨nd, rfl⟩⟩; refine ⟨_, rfl, ?_⟩) | ((with_reducible refine gate_callee (f := 16) rfl ?_); refine goesL_ (some 31) rfl rfl Try.func16 (by kernel_rfl) rfl #[.int .u8 t180, .int .u8 t181] rfl (by (try simp only [List.map_toArray, List.map_cons, List.map_nil]); first | done | rfl | (simp only [List.length_drop, List.length_take]; rfl)) ?_; (with_reducible refine (gf_Mul.calls k t180 t181 t182 _ A16.out).mono ?_); rintro e w' ⟨rfl, ⟨nd, rfl⟩⟩; refine ⟨_, rfl, ?_⟩) | ((with_reducible refine gate_callee (f := 18) rfl ?_); refine goesL_ (some 36) rfl rfl Try.func18 (by kernel_rfl) rfl #[.int .u8 a0, .int .i64 (wrap64 ((Int.tmod a2 100000) + (Int.tmod a3 100000)))] rfl (by (try simp only [List.map_toArray, List.map_cons, List.map_nil]); first | done | rfl | (simp only [List.length_drop, List.length_take]; rfl)) ?_; (with_reducible refine (gf_Pow.calls k a0 (wrap64 ((Int.tmod a2 100000) + (Int.tmod a3 100000))) t183 _ A17.out).mono ?_); rintro e w' ⟨rfl, ⟨nd, rfl⟩⟩; refine ⟨_, rfl, ?_⟩) | (go_at_call 18; (with_reducible refine (gf_Pow.calls k a0 (Int.tmod a2 100000) t184 _ A19.out).mono ?_); rintro e w' ⟨rfl, ⟨nd, rfl⟩⟩) | (go_at_call 18; (with_reducible refine (gf_Pow.calls k t184 (Int.tmod a3 100000) t185 _ A20.out).mono ?_); rintro e w' ⟨rfl, ⟨nd, rfl⟩⟩) | (go_at_call 18; (with_reducible refine (gf_Pow.calls k a0 (wrap64 ((Int.tmod a2 100000) * (Int.tmod a3 100000))) t186 _ A21.out).mono ?_); rintro e w' ⟨rfl, ⟨nd, rfl⟩⟩) | (go_at_call 18; (with_reducible refine (gf_Pow.calls k a0 255 t187 _ A23.out).mono ?_); rintro e w' ⟨rfl, ⟨nd, rfl⟩⟩))
            go_meet
            case rel => exact ⟨_, ((t187 != 1)), (by first | rfl | (simp; done) | (simp [*]; done)), H', ⟨by first | omega | exact Nat.le_refl _⟩, ⟨by repeat (first | (with_reducible first | exact HB.out | apply below_alloc | apply pw_below_drewN | apply below_drew1) | exact HB.out)⟩⟩
          · rw [if_neg c22] at H
            have c22b0 : (t185 == t186) = false := beq_eq_false_iff_ne.mpr c22
            have c22b1 : (t185 != t186) = true := bne_iff_ne.mpr c22
            have H' := Aside0.mk H
            clear H
            go_wp2_with (first | ((with_reducible refine gate_callee (f := 18) rfl ?_); refine goesL_ (some 27) rfl rfl Try.func18 (by kernel_rfl) rfl #[.int .u8 a0, .int .i64 (Int.tmod a2 100000)] rfl (by (try simp only [List.map_toArray, List.map_cons, List.map_nil]); first | done | rfl | (simp only [List.length_drop, List.length_take]; rfl)) ?_; (with_reducible refine (gf_Pow.calls k a0 (Int.tmod a2 100000) t180 _ A14.out).mono ?_); rintro e w' ⟨rfl, ⟨nd, rfl⟩⟩; refine ⟨_, rfl, ?_⟩) | ((with_reducible refine gate_callee (f := 18) rfl ?_); refine goesL_ (some 30) rfl rfl Try.func18 (by kernel_rfl) rfl #[.int .u8 a0, .int .i64 (Int.tmod a3 100000)] rfl (by (try simp only [List.map_toArray, List.map_cons, List.map_nil]); first | done | rfl | (simp only [List.length_drop, List.length_take]; rfl)) ?_; (with_reducible refine (gf_Pow.calls k a0 (Int.tmod a3 100000) t181 _ A15.out).mono ?_); rintro e w' ⟨rfl, ⟨nd, rfl⟩⟩; refine ⟨_, rfl, ?_⟩) | ((with_reducible refine gate_callee (f := 16) rfl ?_); refine goesL_ (some 31) rfl rfl Try.func16 (by kernel_rfl) rfl #[.int .u8 t180, .int .u8 t181] rfl (by (try simp only [List.map_toArray, List.map_cons, List.map_nil]); first | done | rfl | (simp only [List.length_drop, List.length_take]; rfl)) ?_; (with_reducible refine (gf_Mul.calls k t180 t181 t182 _ A16.out).mono ?_); rintro e w' ⟨rfl, ⟨nd, rfl⟩⟩; refine ⟨_, rfl, ?_⟩) | ((with_reducible refine gate_callee (f := 18) rfl ?_); refine goesL_ (some 36) rfl rfl Try.func18 (by kernel_rfl) rfl #[.int .u8 a0, .int .i64 (wrap64 ((Int.tmod a2 100000) + (Int.tmod a3 100000)))] rfl (by (try simp only [List.map_toArray, List.map_cons, List.map_nil]); first | done | rfl | (simp only [List.length_drop, List.length_take]; rfl)) ?_; (with_reducible refine (gf_Pow.calls k a0 (wrap64 ((Int.tmod a2 100000) + (Int.tmod a3 100000))) t183 _ A17.out).mono ?_); rintro e w' ⟨rfl, ⟨nd, rfl⟩⟩; refine ⟨_, rfl, ?_⟩) | (go_at_call 18; (with_reducible refine (gf_Pow.calls k a0 (Int.tmod a2 100000) t184 _ A19.out).mono ?_); rintro e w' ⟨rfl, ⟨nd, rfl⟩⟩) | (go_at_call 18; (with_reducible refine (gf_Pow.calls k t184 (Int.tmod a3 100000) t185 _ A20.out).mono ?_); rintro e w' ⟨rfl, ⟨nd, rfl⟩⟩) | (go_at_call 18; (with_reducible refine (gf_Pow.calls k a0 (wrap64 ((Int.tmod a2 100000) * (Int.tmod a3 100000))) t186 _ A21.out).mono ?_); rintro e w' ⟨rfl, ⟨nd, rfl⟩⟩))
            go_meet
            case rel => exact ⟨_, (true), (by first | rfl | (simp; done) | (simp [*]; done)), H', ⟨by first | omega | exact Nat.le_refl _⟩, ⟨by repeat (first | (with_reducible first | exact HB.out | apply below_alloc | apply pw_below_drewN | apply below_drew1) | exact HB.out)⟩⟩
        · rw [if_neg c18] at H
          have c18b0 : (t182 == t183) = false := beq_eq_false_iff_ne.mpr c18
          have c18b1 : (t182 != t183) = true := bne_iff_ne.mpr c18
          (first | rw [c18b0] | (simp only [i64_w, i32_w]; rw [c18b0]) | skip)
          have H' := Aside0.mk H
          clear H
          go_wp2_with (first | ((with_reducible refine gate_callee (f := 18) rfl ?_); refine goesL_ (some 27) rfl rfl Try.func18 (by kernel_rfl) rfl #[.int .u8 a0, .int .i64 (Int.tmod a2 100000)] rfl (by (try simp only [List.map_toArray, List.map_cons, List.map_nil]); first | done | rfl | (simp only [List.length_drop, List.length_take]; rfl)) ?_; (with_reducible refine (gf_Pow.calls k a0 (Int.tmod a2 100000) t180 _ A14.out).mono ?_); rintro e w' ⟨rfl, ⟨nd, rfl⟩⟩; refine ⟨_, rfl, ?_⟩) | ((with_reducible refine gate_callee (f := 18) rfl ?_); refine goesL_ (some 30) rfl rfl Try.func18 (by kernel_rfl) rfl #[.int .u8 a0, .int .i64 (Int.tmod a3 100000)] rfl (by (try simp only [List.map_toArray, List.map_cons, List.map_nil]); first | done | rfl | (simp only [List.length_drop, List.length_take]; rfl)) ?_; (with_reducible refine (gf_Pow.calls k a0 (Int.tmod a3 100000) t181 _ A15.out).mono ?_); rintro e w' ⟨rfl, ⟨nd, rfl⟩⟩; refine ⟨_, rfl, ?_⟩) | ((with_reducible refine gate_callee (f := 16) rfl ?_); refine goesL_ (some 31) rfl rfl Try.func16 (by kernel_rfl) rfl #[.int .u8 t180, .int .u8 t181] rfl (by (try simp only [List.map_toArray, List.map_cons, List.map_nil]); first | done | rfl | (simp only [List.length_drop, List.length_take]; rfl)) ?_; (with_reducible refine (gf_Mul.calls k t180 t181 t182 _ A16.out).mono ?_); rintro e w' ⟨rfl, ⟨nd, rfl⟩⟩; refine ⟨_, rfl, ?_⟩) | ((with_reducible refine gate_callee (f := 18) rfl ?_); refine goesL_ (some 36) rfl rfl Try.func18 (by kernel_rfl) rfl #[.int .u8 a0, .int .i64 (wrap64 ((Int.tmod a2 100000) + (Int.tmod a3 100000)))] rfl (by (try simp only [List.map_toArray, List.map_cons, List.map_nil]); first | done | rfl | (simp only [List.length_drop, List.length_take]; rfl)) ?_; (with_reducible refine (gf_Pow.calls k a0 (wrap64 ((Int.tmod a2 100000) + (Int.tmod a3 100000))) t183 _ A17.out).mono ?_); rintro e w' ⟨rfl, ⟨nd, rfl⟩⟩; refine ⟨_, rfl, ?_⟩))
          go_meet
          case rel => exact ⟨_, (true), (by first | rfl | (simp; done) | (simp [*]; done)), H', ⟨by first | omega | exact Nat.le_refl _⟩, ⟨by repeat (first | (with_reducible first | exact HB.out | apply below_alloc | apply pw_below_drewN | apply below_drew1) | exact HB.out)⟩⟩
      case rest =>
        clear HC12
        try clear c1
        try clear c2
        try clear p2
        try clear c6
        try clear p6
        try clear c7
        try clear c7b0
        try clear c7b1
        try clear c9
        try clear c9b0
        try clear c9b1
        try clear c16
        try clear c18
        try clear c18b0
        try clear c18b1
        try clear c22
        try clear c22b0
        try clear c22b1
        obtain ⟨kq, x55_11, rfl, HA, HJ11, HB⟩ := hcut
        cases kq with
        | zero => exact absurd HA.out (by simp [footlockerlaw01_GfPowers.j0])
        | succ kj11 =>
          have H := HA.out
          clear HA
          simp only [footlockerlaw01_GfPowers.j0] at H
          by_cases c24 : x55_11 = true
          · subst c24
            have H1 : (some false) = some r := by rw [if_pos rfl] at H; exact H
            clear H
            have H := H1
            clear H1
            obtain rfl := Option.some.inj H
            go_wp2
            go_ret
            exact ⟨by first | rfl | (simp [errW_none, errW_some] <;> rfl) | (simp [*, errW_none, errW_some] <;> rfl), by repeat (first | (with_reducible first | exact HB.out | apply below_alloc | apply pw_below_drewN | apply below_drew1) | exact HB.out)⟩
          · replace c24 := Bool.eq_false_iff.mpr c24
            subst c24
            have H1 : (if a1 = 0 then (some true) else ((gf_Mul.f kj11 a0 a1).bind fun t188 => ((gf_Log.f kj11 t188).bind fun t189 => ((gf_Log.f kj11 a0).bind fun t190 => ((gf_Log.f kj11 a1).bind fun t191 => (some (t189 == (Int.tmod (wrap64 (t190 + t191)) 255)))))))) = some r := by rw [if_neg (show ¬ (false = true) by decide)] at H; exact H
            clear H
            have H := H1
            clear H1
            by_cases c25 : a1 = 0
            · rw [if_pos c25] at H
              have c25b0 : (a1 == 0) = true := beq_iff_eq.mpr c25
              have c25b1 : (a1 != 0) = false := bne_eq_false_iff_eq.mpr c25
              clear c25
              obtain rfl := Option.some.inj H
              go_wp2
              go_ret
              exact ⟨by first | rfl | (simp [errW_none, errW_some] <;> rfl) | (simp [*, errW_none, errW_some] <;> rfl), by repeat (first | (with_reducible first | exact HB.out | apply below_alloc | apply pw_below_drewN | apply below_drew1) | exact HB.out)⟩
            · rw [if_neg c25] at H
              have c25b0 : (a1 == 0) = false := beq_eq_false_iff_ne.mpr c25
              have c25b1 : (a1 != 0) = true := bne_iff_ne.mpr c25
              replace H := Option.bind_eq_some_iff.mp H
              obtain ⟨t188, A260, H⟩ := H
              replace H : ((gf_Log.f kj11 t188).bind fun t189 => ((gf_Log.f kj11 a0).bind fun t190 => ((gf_Log.f kj11 a1).bind fun t191 => (some (t189 == (Int.tmod (wrap64 (t190 + t191)) 255)))))) = some r := H
              have A26 := Aside0.mk A260
              clear A260
              replace H := Option.bind_eq_some_iff.mp H
              obtain ⟨t189, A270, H⟩ := H
              replace H : ((gf_Log.f kj11 a0).bind fun t190 => ((gf_Log.f kj11 a1).bind fun t191 => (some (t189 == (Int.tmod (wrap64 (t190 + t191)) 255))))) = some r := H
              have A27 := Aside0.mk A270
              clear A270
              replace H := Option.bind_eq_some_iff.mp H
              obtain ⟨t190, A280, H⟩ := H
              replace H : ((gf_Log.f kj11 a1).bind fun t191 => (some (t189 == (Int.tmod (wrap64 (t190 + t191)) 255)))) = some r := H
              have A28 := Aside0.mk A280
              clear A280
              replace H := Option.bind_eq_some_iff.mp H
              obtain ⟨t191, A290, H⟩ := H
              replace H : (some (t189 == (Int.tmod (wrap64 (t190 + t191)) 255))) = some r := H
              have A29 := Aside0.mk A290
              clear A290
              obtain rfl := Option.some.inj H
              go_wp2_with (first | (go_at_call 16; (with_reducible refine (gf_Mul.calls kj11 a0 a1 t188 _ A26.out).mono ?_); rintro e w' ⟨rfl, ⟨nd, rfl⟩⟩) | (go_at_call 11; (with_reducible refine (gf_Log.calls kj11 t188 t189 _ A27.out).mono ?_); rintro e w' ⟨rfl, ⟨nd, rfl⟩⟩) | (go_at_call 11; (with_reducible refine (gf_Log.calls kj11 a0 t190 _ A28.out).mono ?_); rintro e w' ⟨rfl, ⟨nd, rfl⟩⟩) | (go_at_call 11; (with_reducible refine (gf_Log.calls kj11 a1 t191 _ A29.out).mono ?_); rintro e w' ⟨rfl, ⟨nd, rfl⟩⟩))
              go_ret
              exact ⟨by first | rfl | (simp [errW_none, errW_some] <;> rfl) | (simp [*, errW_none, errW_some] <;> rfl), by repeat (first | (with_reducible first | exact HB.out | apply below_alloc | apply pw_below_drewN | apply below_drew1) | exact HB.out)⟩
  · replace c6 := Bool.eq_false_iff.mpr c6
    subst c6
    have H1 : (some false) = some r := by rw [if_neg (show ¬ (false = true) by decide)] at H; exact H
    clear H
    have H := H1
    clear H1
    obtain rfl := Option.some.inj H
    go_enter Try.func6, Try.ntmps6
    go_wp2_with (first | ((with_reducible refine gate_callee (f := 9) rfl ?_); refine goesL_ (some 9) rfl rfl Try.func9 (by kernel_rfl) rfl #[] rfl (by (try simp only [List.map_toArray, List.map_cons, List.map_nil]); first | done | rfl | (simp only [List.length_drop, List.length_take]; rfl)) ?_; (with_reducible refine (footlockerlaw01_alive.calls k  false _ A5.out).mono ?_); rintro e w30 ⟨rfl, hb⟩; refine ⟨_, rfl, ?_⟩; have n0_ := Aside0.mk (below_step (by repeat (first | (with_reducible first | exact HB.out | apply below_alloc | apply pw_below_drewN | apply below_drew1) | exact HB.out)) hb); clear HB; have HB := n0_; clear n0_; (try clear hb); (try clear hb2); (try clear hk); (try clear hi)))
    go_ret
    exact ⟨by first | rfl | (simp [errW_none, errW_some] <;> rfl) | (simp [*, errW_none, errW_some] <;> rfl), by repeat (first | (with_reducible first | exact HB.out | apply below_alloc | apply pw_below_drewN | apply below_drew1) | exact HB.out)⟩

/-- THE ONE PURE STATEMENT of footlockerlaw01_GfPowers: yours. -/
def footlockerlaw01_GfPowers.Pure : Prop := ∀ (a0 : Int) (a1 : Int) (a2 : Int) (a3 : Int), (Lit.int .u8 a0).wf = true → (Lit.int .u8 a1).wf = true → (Lit.int .i64 a2).wf = true → (Lit.int .i64 a3).wf = true → ∃ k, footlockerlaw01_GfPowers.f k a0 a1 a2 a3 = some true
theorem footlockerlaw01_GfPowers.walk (P : footlockerlaw01_GfPowers.Pure) (a0 : Int) (a1 : Int) (a2 : Int) (a3 : Int) (w : World) (w0 : (Lit.int .u8 a0).wf = true) (w1 : (Lit.int .u8 a1).wf = true) (w2 : (Lit.int .i64 a2).wf = true) (w3 : (Lit.int .i64 a3).wf = true) :
    Calls Try.prog 6 #[.int .u8 a0, .int .u8 a1, .int .i64 a2, .int .i64 a3] w fun e w' => e = .returned (.bool true) ∧ Below w.heap.size w w' := by
  obtain ⟨k, h⟩ := P a0 a1 a2 a3 w0 w1 w2 w3
  refine (footlockerlaw01_GfPowers.calls k a0 a1 a2 a3 true w h).mono ?_
  rintro e w' ⟨rfl, hd⟩
  exact ⟨rfl, hd⟩

end Go.Proofs.Ytegnjcehklldpaa.Q
