-- Laid by myprint.py (a scratch copy of the print, with texts of my own in it). Not trusted: Lean checks it.
import Derived.Test.YtegnjcehklldpaaQ0
import Derived.Test.YtegnjcehklldpaaQ1
import Derived.Test.YtegnjcehklldpaaQ2
namespace Go.Proofs.Ytegnjcehklldpaa.Q
open Go.RowKit Go.Proofs.YtegnjcehklldpaaW.PrintWords Go.Proofs.YtegnjcehklldpaaW.PrintLast Go.Proofs.YtegnjcehklldpaaW.PrintMore
attribute [local go_sem] max2_int min2_int max_two min_two max_three min_three max_four min_four   -- for this text's walks alone
set_option linter.unusedVariables false
set_option linter.unusedSimpArgs false

/-! ### footlockerlaw01_GfBytes: function 3 -/
def footlockerlaw01_GfBytes.j0 : Nat → Int → Int → Int → Int → Bool → Bool → Option (Bool)
  | 0, _, _, _, _, _, _ => none
  | k + 1, x0, x1, x2, x7, x8, x44 => if x44 = true then (some false) else ((footlockerref01_Inv.f k x1).bind fun t152 => ((footlockerref01_Mul.f k x0 t152).bind fun t153 => ((gf_Add.f x0 x1).bind fun t154 => (if t154 = (Go.bits .xor .u8 x0 x1) then ((gf_Mul.f k x0 x1).bind fun t155 => ((footlockerref01_Mul.f k x0 x1).bind fun t156 => (if t155 = t156 then ((gf_Inv.f k x0).bind fun t157 => ((footlockerref01_Inv.f k x0).bind fun t158 => (if t157 = t158 then (if (x8 == (x1 != 0)) = true then (if x8 = true then (if x7 = t153 then ((gf_Pow.f k x0 x2).bind fun t159 => ((footlockerref01_Pow.f k x0 x2).bind fun t160 => (if t159 = t160 then ((gf_Exp.f k x2).bind fun t161 => ((footlockerref01_Pow.f k 2 x2).bind fun t162 => (some (t161 == t162)))) else (some false)))) else (some false)) else (if x7 = 0 then ((gf_Pow.f k x0 x2).bind fun t163 => ((footlockerref01_Pow.f k x0 x2).bind fun t164 => (if t163 = t164 then ((gf_Exp.f k x2).bind fun t165 => ((footlockerref01_Pow.f k 2 x2).bind fun t166 => (some (t165 == t166)))) else (some false)))) else (some false))) else (some false)) else (some false)))) else (some false)))) else (some false)))))
def footlockerlaw01_GfBytes.f (k : Nat) (a0 : Int) (a1 : Int) (a2 : Int) : Option (Bool) := (footlockerlaw01_alive.f k).bind fun t147 => (if t147 = true then ((gf_Div.f k a0 a1).bind fun bt148 => ((gf_Log.f k a0).bind fun t150 => (if a0 = 0 then (if t150 = (-1) then (footlockerlaw01_GfBytes.j0 k a0 a1 a2 bt148.1 bt148.2 false) else (footlockerlaw01_GfBytes.j0 k a0 a1 a2 bt148.1 bt148.2 true)) else (if t150 < 0 then (footlockerlaw01_GfBytes.j0 k a0 a1 a2 bt148.1 bt148.2 true) else (if t150 > 254 then (footlockerlaw01_GfBytes.j0 k a0 a1 a2 bt148.1 bt148.2 true) else ((footlockerref01_Pow.f k 2 t150).bind fun t151 => (footlockerlaw01_GfBytes.j0 k a0 a1 a2 bt148.1 bt148.2 (t151 != a0)))))))) else (some false))
theorem footlockerlaw01_GfBytes.mono_l : ∀ k, (∀ y0 y1 y2 y3 y4 y5, LeO (footlockerlaw01_GfBytes.j0 k y0 y1 y2 y3 y4 y5) (footlockerlaw01_GfBytes.j0 (k + 1) y0 y1 y2 y3 y4 y5))
  | 0 => fun _ _ _ _ _ _ r h => by simp [footlockerlaw01_GfBytes.j0] at h
  | k + 1 => by
    have ih0 := footlockerlaw01_GfBytes.mono_l k
    · intro y0 y1 y2 y3 y4 y5
      unfold footlockerlaw01_GfBytes.j0
      repeat' first
      | (with_reducible exact ih0 _ _ _ _ _ _)
      | (with_reducible exact footlockerlaw01_alive.mono _)
      | (with_reducible exact footlockerref01_Inv.mono _ _)
      | (with_reducible exact footlockerref01_Mul.mono _ _ _)
      | (with_reducible exact footlockerref01_Pow.mono _ _ _)
      | (with_reducible exact gf_Div.mono _ _ _)
      | (with_reducible exact gf_Exp.mono _ _)
      | (with_reducible exact gf_Inv.mono _ _)
      | (with_reducible exact gf_Log.mono _ _)
      | (with_reducible exact gf_Mul.mono _ _ _)
      | (with_reducible exact gf_Pow.mono _ _ _)
      | (with_reducible exact LeO.refl _)
      | (with_reducible exact LeO.none _)
      | (with_reducible refine LeO.ite ?_ ?_)
      | (with_reducible refine LeO.bind ?_ (fun _ => ?_))
      | exact ih0 _ _ _ _ _ _
      | exact footlockerlaw01_alive.mono _
      | exact footlockerref01_Inv.mono _ _
      | exact footlockerref01_Mul.mono _ _ _
      | exact footlockerref01_Pow.mono _ _ _
      | exact gf_Div.mono _ _ _
      | exact gf_Exp.mono _ _
      | exact gf_Inv.mono _ _
      | exact gf_Log.mono _ _
      | exact gf_Mul.mono _ _ _
      | exact gf_Pow.mono _ _ _
      | exact LeO.none _
      | refine LeO.ite ?_ ?_
      | refine LeO.bind ?_ (fun _ => ?_)
theorem footlockerlaw01_GfBytes.mono : ∀ a0 a1 a2 k, LeO (footlockerlaw01_GfBytes.f k a0 a1 a2) (footlockerlaw01_GfBytes.f (k + 1) a0 a1 a2) := by
  intro a0 a1 a2 k
  have ih0 := footlockerlaw01_GfBytes.mono_l k
  unfold footlockerlaw01_GfBytes.f
  repeat' first
      | (with_reducible exact ih0 _ _ _ _ _ _)
      | (with_reducible exact footlockerlaw01_alive.mono _)
      | (with_reducible exact footlockerref01_Inv.mono _ _)
      | (with_reducible exact footlockerref01_Mul.mono _ _ _)
      | (with_reducible exact footlockerref01_Pow.mono _ _ _)
      | (with_reducible exact gf_Div.mono _ _ _)
      | (with_reducible exact gf_Exp.mono _ _)
      | (with_reducible exact gf_Inv.mono _ _)
      | (with_reducible exact gf_Log.mono _ _)
      | (with_reducible exact gf_Mul.mono _ _ _)
      | (with_reducible exact gf_Pow.mono _ _ _)
      | (with_reducible exact LeO.refl _)
      | (with_reducible exact LeO.none _)
      | (with_reducible refine LeO.ite ?_ ?_)
      | (with_reducible refine LeO.bind ?_ (fun _ => ?_))
      | exact ih0 _ _ _ _ _ _
      | exact footlockerlaw01_alive.mono _
      | exact footlockerref01_Inv.mono _ _
      | exact footlockerref01_Mul.mono _ _ _
      | exact footlockerref01_Pow.mono _ _ _
      | exact gf_Div.mono _ _ _
      | exact gf_Exp.mono _ _
      | exact gf_Inv.mono _ _
      | exact gf_Log.mono _ _
      | exact gf_Mul.mono _ _ _
      | exact gf_Pow.mono _ _ _
      | exact LeO.none _
      | refine LeO.ite ?_ ?_
      | refine LeO.bind ?_ (fun _ => ?_)
set_option maxHeartbeats 8000000 in
set_option maxRecDepth 100000 in
theorem footlockerlaw01_GfBytes.calls (k : Nat) (a0 : Int) (a1 : Int) (a2 : Int) (r : Bool) (w : World) (h : footlockerlaw01_GfBytes.f k a0 a1 a2 = some r) :
    Calls Try.prog 3 #[.int .u8 a0, .int .u8 a1, .int .i64 a2] w fun e w' => e = .returned (.bool r) ∧ Below w.heap.size w w' := by
  have HB := Aside0.mk (Below.refl w.heap.size w)
  have H : ((footlockerlaw01_alive.f k).bind fun t147 => (if t147 = true then ((gf_Div.f k a0 a1).bind fun bt148 => ((gf_Log.f k a0).bind fun t150 => (if a0 = 0 then (if t150 = (-1) then (footlockerlaw01_GfBytes.j0 k a0 a1 a2 bt148.1 bt148.2 false) else (footlockerlaw01_GfBytes.j0 k a0 a1 a2 bt148.1 bt148.2 true)) else (if t150 < 0 then (footlockerlaw01_GfBytes.j0 k a0 a1 a2 bt148.1 bt148.2 true) else (if t150 > 254 then (footlockerlaw01_GfBytes.j0 k a0 a1 a2 bt148.1 bt148.2 true) else ((footlockerref01_Pow.f k 2 t150).bind fun t151 => (footlockerlaw01_GfBytes.j0 k a0 a1 a2 bt148.1 bt148.2 (t151 != a0)))))))) else (some false))) = some r := h
  clear h
  replace H := Option.bind_eq_some_iff.mp H
  obtain ⟨t147, A40, H⟩ := H
  replace H : (if t147 = true then ((gf_Div.f k a0 a1).bind fun bt148 => ((gf_Log.f k a0).bind fun t150 => (if a0 = 0 then (if t150 = (-1) then (footlockerlaw01_GfBytes.j0 k a0 a1 a2 bt148.1 bt148.2 false) else (footlockerlaw01_GfBytes.j0 k a0 a1 a2 bt148.1 bt148.2 true)) else (if t150 < 0 then (footlockerlaw01_GfBytes.j0 k a0 a1 a2 bt148.1 bt148.2 true) else (if t150 > 254 then (footlockerlaw01_GfBytes.j0 k a0 a1 a2 bt148.1 bt148.2 true) else ((footlockerref01_Pow.f k 2 t150).bind fun t151 => (footlockerlaw01_GfBytes.j0 k a0 a1 a2 bt148.1 bt148.2 (t151 != a0)))))))) else (some false)) = some r := H
  have A4 := Aside0.mk A40
  clear A40
  by_cases c5 : t147 = true
  · subst c5
    have H1 : ((gf_Div.f k a0 a1).bind fun bt148 => ((gf_Log.f k a0).bind fun t150 => (if a0 = 0 then (if t150 = (-1) then (footlockerlaw01_GfBytes.j0 k a0 a1 a2 bt148.1 bt148.2 false) else (footlockerlaw01_GfBytes.j0 k a0 a1 a2 bt148.1 bt148.2 true)) else (if t150 < 0 then (footlockerlaw01_GfBytes.j0 k a0 a1 a2 bt148.1 bt148.2 true) else (if t150 > 254 then (footlockerlaw01_GfBytes.j0 k a0 a1 a2 bt148.1 bt148.2 true) else ((footlockerref01_Pow.f k 2 t150).bind fun t151 => (footlockerlaw01_GfBytes.j0 k a0 a1 a2 bt148.1 bt148.2 (t151 != a0)))))))) = some r := by rw [if_pos rfl] at H; exact H
    clear H
    have H := H1
    clear H1
    replace H := Option.bind_eq_some_iff.mp H
    obtain ⟨⟨t148, t149⟩, A60, H⟩ := H
    replace H : ((gf_Log.f k a0).bind fun t150 => (if a0 = 0 then (if t150 = (-1) then (footlockerlaw01_GfBytes.j0 k a0 a1 a2 t148 t149 false) else (footlockerlaw01_GfBytes.j0 k a0 a1 a2 t148 t149 true)) else (if t150 < 0 then (footlockerlaw01_GfBytes.j0 k a0 a1 a2 t148 t149 true) else (if t150 > 254 then (footlockerlaw01_GfBytes.j0 k a0 a1 a2 t148 t149 true) else ((footlockerref01_Pow.f k 2 t150).bind fun t151 => (footlockerlaw01_GfBytes.j0 k a0 a1 a2 t148 t149 (t151 != a0))))))) = some r := H
    have A6 := Aside0.mk A60
    clear A60
    replace H := Option.bind_eq_some_iff.mp H
    obtain ⟨t150, A70, H⟩ := H
    replace H : (if a0 = 0 then (if t150 = (-1) then (footlockerlaw01_GfBytes.j0 k a0 a1 a2 t148 t149 false) else (footlockerlaw01_GfBytes.j0 k a0 a1 a2 t148 t149 true)) else (if t150 < 0 then (footlockerlaw01_GfBytes.j0 k a0 a1 a2 t148 t149 true) else (if t150 > 254 then (footlockerlaw01_GfBytes.j0 k a0 a1 a2 t148 t149 true) else ((footlockerref01_Pow.f k 2 t150).bind fun t151 => (footlockerlaw01_GfBytes.j0 k a0 a1 a2 t148 t149 (t151 != a0)))))) = some r := H
    have A7 := Aside0.mk A70
    clear A70
    have HC8 := Aside0.mk H
    clear H
    go_enter Try.func3, Try.ntmps3
    go_upto_region 5 with (first | ((with_reducible refine gate_callee (f := 9) rfl ?_); refine goesL_ (some 11) rfl rfl Try.func9 (by kernel_rfl) rfl #[] rfl (by (try simp only [List.map_toArray, List.map_cons, List.map_nil]); first | done | rfl | (simp only [List.length_drop, List.length_take]; rfl)) ?_; (with_reducible refine (footlockerlaw01_alive.calls k  true _ A4.out).mono ?_); rintro e w9 ⟨rfl, hb⟩; refine ⟨_, rfl, ?_⟩; have n0_ := Aside0.mk (below_step (by repeat (first | (with_reducible first | exact HB.out | apply below_alloc | apply pw_below_drewN | apply below_drew1) | exact HB.out)) hb); clear HB; have HB := n0_; clear n0_; (try clear hb); (try clear hb2); (try clear hk); (try clear hi)) | ((with_reducible refine gate_callee (f := 10) rfl ?_); refine goesL_ (some 16) rfl rfl Try.func10 (by kernel_rfl) rfl #[.int .u8 a0, .int .u8 a1] rfl (by (try simp only [List.map_toArray, List.map_cons, List.map_nil]); first | done | rfl | (simp only [List.length_drop, List.length_take]; rfl)) ?_; (with_reducible refine (gf_Div.calls k a0 a1 t148 t149 _ A6.out).mono ?_); rintro e w' ⟨rfl, ⟨nd, rfl⟩⟩; refine ⟨_, rfl, ?_⟩) | ((with_reducible refine gate_callee (f := 11) rfl ?_); refine goesL_ (some 20) rfl rfl Try.func11 (by kernel_rfl) rfl #[.int .u8 a0] rfl (by (try simp only [List.map_toArray, List.map_cons, List.map_nil]); first | done | rfl | (simp only [List.length_drop, List.length_take]; rfl)) ?_; (with_reducible refine (gf_Log.calls k a0 t150 _ A7.out).mono ?_); rintro e w' ⟨rfl, ⟨nd, rfl⟩⟩; refine ⟨_, rfl, ?_⟩))
    (try simp only [Act.put, List.setIfInBounds_toArray, List.set_cons_zero, List.set_cons_succ])
    go_cut [44] (fun v44 wc => ∃ (kq : Nat) (x44_7 : Bool), v44 = .bool x44_7 ∧ Aside0 (footlockerlaw01_GfBytes.j0 kq a0 a1 a2 t148 t149 x44_7 = some r) ∧ Aside0 (kq ≤ k) ∧ Aside0 (Below w.heap.size w wc))
    case first =>
      have H := HC8.out
      clear HC8
      by_cases c10 : a0 = 0
      · rw [if_pos c10] at H
        have c10b0 : (a0 == 0) = true := beq_iff_eq.mpr c10
        have c10b1 : (a0 != 0) = false := bne_eq_false_iff_eq.mpr c10
        clear c10
        (first | rw [c10b0] | (simp only [i64_w, i32_w]; rw [c10b0]) | skip)
        by_cases c11 : t150 = (-1)
        · rw [if_pos c11] at H
          have c11b0 : (t150 == (-1)) = true := beq_iff_eq.mpr c11
          have c11b1 : (t150 != (-1)) = false := bne_eq_false_iff_eq.mpr c11
          clear c11
          have H' := Aside0.mk H
          clear H
          go_wp2
          go_meet
          case rel => exact ⟨_, (false), (by first | rfl | (simp; done) | (simp [*]; done)), H', ⟨by first | omega | exact Nat.le_refl _⟩, ⟨by repeat (first | (with_reducible first | exact HB.out | apply below_alloc | apply pw_below_drewN | apply below_drew1) | exact HB.out)⟩⟩
        · rw [if_neg c11] at H
          have c11b0 : (t150 == (-1)) = false := beq_eq_false_iff_ne.mpr c11
          have c11b1 : (t150 != (-1)) = true := bne_iff_ne.mpr c11
          have H' := Aside0.mk H
          clear H
          go_wp2
          go_meet
          case rel => exact ⟨_, (true), (by first | rfl | (simp; done) | (simp [*]; done)), H', ⟨by first | omega | exact Nat.le_refl _⟩, ⟨by repeat (first | (with_reducible first | exact HB.out | apply below_alloc | apply pw_below_drewN | apply below_drew1) | exact HB.out)⟩⟩
      · rw [if_neg c10] at H
        have c10b0 : (a0 == 0) = false := beq_eq_false_iff_ne.mpr c10
        have c10b1 : (a0 != 0) = true := bne_iff_ne.mpr c10
        (first | rw [c10b0] | (simp only [i64_w, i32_w]; rw [c10b0]) | skip)
        by_cases c12 : t150 < 0
        · rw [if_pos c12] at H
          have c12b0 : decide (t150 < 0) = true := decide_eq_true c12
          clear c12
          have H' := Aside0.mk H
          clear H
          go_wp2
          go_meet
          case rel => exact ⟨_, (true), (by first | rfl | (simp; done) | (simp [*]; done)), H', ⟨by first | omega | exact Nat.le_refl _⟩, ⟨by repeat (first | (with_reducible first | exact HB.out | apply below_alloc | apply pw_below_drewN | apply below_drew1) | exact HB.out)⟩⟩
        · rw [if_neg c12] at H
          have c12b0 : decide (t150 < 0) = false := decide_eq_false c12
          clear c12
          by_cases c13 : t150 > 254
          · rw [if_pos c13] at H
            have c13b0 : decide (254 < t150) = true := decide_eq_true c13
            clear c13
            have H' := Aside0.mk H
            clear H
            go_wp2
            go_meet
            case rel => exact ⟨_, (true), (by first | rfl | (simp; done) | (simp [*]; done)), H', ⟨by first | omega | exact Nat.le_refl _⟩, ⟨by repeat (first | (with_reducible first | exact HB.out | apply below_alloc | apply pw_below_drewN | apply below_drew1) | exact HB.out)⟩⟩
          · rw [if_neg c13] at H
            have c13b0 : decide (254 < t150) = false := decide_eq_false c13
            clear c13
            replace H := Option.bind_eq_some_iff.mp H
            obtain ⟨t151, A140, H⟩ := H
            replace H : (footlockerlaw01_GfBytes.j0 k a0 a1 a2 t148 t149 (t151 != a0)) = some r := H
            have A14 := Aside0.mk A140
            clear A140
            have H' := Aside0.mk H
            clear H
            go_wp2_with (first | (go_at_call 12; (with_reducible refine (footlockerref01_Pow.calls k 2 t150 t151 _ A14.out).mono ?_); rintro e w' ⟨rfl, ⟨nd, rfl⟩⟩))
            go_meet
            case rel => exact ⟨_, ((t151 != a0)), (by first | rfl | (simp; done) | (simp [*]; done)), H', ⟨by first | omega | exact Nat.le_refl _⟩, ⟨by repeat (first | (with_reducible first | exact HB.out | apply below_alloc | apply pw_below_drewN | apply below_drew1) | exact HB.out)⟩⟩
    case rest =>
      clear HC8
      try clear c1
      try clear p2
      try clear c3
      try clear c5
      try clear c9
      try clear c10
      try clear c10b0
      try clear c10b1
      try clear c11
      try clear c11b0
      try clear c11b1
      try clear c12
      try clear c12b0
      try clear c13
      try clear c13b0
      obtain ⟨kq, x44_7, rfl, HA, HJ7, HB⟩ := hcut
      cases kq with
      | zero => exact absurd HA.out (by simp [footlockerlaw01_GfBytes.j0])
      | succ kj7 =>
        have H := HA.out
        clear HA
        simp only [footlockerlaw01_GfBytes.j0] at H
        by_cases c15 : x44_7 = true
        · subst c15
          have H1 : (some false) = some r := by rw [if_pos rfl] at H; exact H
          clear H
          have H := H1
          clear H1
          obtain rfl := Option.some.inj H
          go_wp2
          go_ret
          exact ⟨by first | rfl | (simp [errW_none, errW_some] <;> rfl) | (simp [*, errW_none, errW_some] <;> rfl), by repeat (first | (with_reducible first | exact HB.out | apply below_alloc | apply pw_below_drewN | apply below_drew1) | exact HB.out)⟩
        · replace c15 := Bool.eq_false_iff.mpr c15
          subst c15
          have H1 : ((footlockerref01_Inv.f kj7 a1).bind fun t152 => ((footlockerref01_Mul.f kj7 a0 t152).bind fun t153 => ((gf_Add.f a0 a1).bind fun t154 => (if t154 = (Go.bits .xor .u8 a0 a1) then ((gf_Mul.f kj7 a0 a1).bind fun t155 => ((footlockerref01_Mul.f kj7 a0 a1).bind fun t156 => (if t155 = t156 then ((gf_Inv.f kj7 a0).bind fun t157 => ((footlockerref01_Inv.f kj7 a0).bind fun t158 => (if t157 = t158 then (if (t149 == (a1 != 0)) = true then (if t149 = true then (if t148 = t153 then ((gf_Pow.f kj7 a0 a2).bind fun t159 => ((footlockerref01_Pow.f kj7 a0 a2).bind fun t160 => (if t159 = t160 then ((gf_Exp.f kj7 a2).bind fun t161 => ((footlockerref01_Pow.f kj7 2 a2).bind fun t162 => (some (t161 == t162)))) else (some false)))) else (some false)) else (if t148 = 0 then ((gf_Pow.f kj7 a0 a2).bind fun t163 => ((footlockerref01_Pow.f kj7 a0 a2).bind fun t164 => (if t163 = t164 then ((gf_Exp.f kj7 a2).bind fun t165 => ((footlockerref01_Pow.f kj7 2 a2).bind fun t166 => (some (t165 == t166)))) else (some false)))) else (some false))) else (some false)) else (some false)))) else (some false)))) else (some false))))) = some r := by rw [if_neg (show ¬ (false = true) by decide)] at H; exact H
          clear H
          have H := H1
          clear H1
          replace H := Option.bind_eq_some_iff.mp H
          obtain ⟨t152, A160, H⟩ := H
          replace H : ((footlockerref01_Mul.f kj7 a0 t152).bind fun t153 => ((gf_Add.f a0 a1).bind fun t154 => (if t154 = (Go.bits .xor .u8 a0 a1) then ((gf_Mul.f kj7 a0 a1).bind fun t155 => ((footlockerref01_Mul.f kj7 a0 a1).bind fun t156 => (if t155 = t156 then ((gf_Inv.f kj7 a0).bind fun t157 => ((footlockerref01_Inv.f kj7 a0).bind fun t158 => (if t157 = t158 then (if (t149 == (a1 != 0)) = true then (if t149 = true then (if t148 = t153 then ((gf_Pow.f kj7 a0 a2).bind fun t159 => ((footlockerref01_Pow.f kj7 a0 a2).bind fun t160 => (if t159 = t160 then ((gf_Exp.f kj7 a2).bind fun t161 => ((footlockerref01_Pow.f kj7 2 a2).bind fun t162 => (some (t161 == t162)))) else (some false)))) else (some false)) else (if t148 = 0 then ((gf_Pow.f kj7 a0 a2).bind fun t163 => ((footlockerref01_Pow.f kj7 a0 a2).bind fun t164 => (if t163 = t164 then ((gf_Exp.f kj7 a2).bind fun t165 => ((footlockerref01_Pow.f kj7 2 a2).bind fun t166 => (some (t165 == t166)))) else (some false)))) else (some false))) else (some false)) else (some false)))) else (some false)))) else (some false)))) = some r := H
          have A16 := Aside0.mk A160
          clear A160
          replace H := Option.bind_eq_some_iff.mp H
          obtain ⟨t153, A170, H⟩ := H
          replace H : ((gf_Add.f a0 a1).bind fun t154 => (if t154 = (Go.bits .xor .u8 a0 a1) then ((gf_Mul.f kj7 a0 a1).bind fun t155 => ((footlockerref01_Mul.f kj7 a0 a1).bind fun t156 => (if t155 = t156 then ((gf_Inv.f kj7 a0).bind fun t157 => ((footlockerref01_Inv.f kj7 a0).bind fun t158 => (if t157 = t158 then (if (t149 == (a1 != 0)) = true then (if t149 = true then (if t148 = t153 then ((gf_Pow.f kj7 a0 a2).bind fun t159 => ((footlockerref01_Pow.f kj7 a0 a2).bind fun t160 => (if t159 = t160 then ((gf_Exp.f kj7 a2).bind fun t161 => ((footlockerref01_Pow.f kj7 2 a2).bind fun t162 => (some (t161 == t162)))) else (some false)))) else (some false)) else (if t148 = 0 then ((gf_Pow.f kj7 a0 a2).bind fun t163 => ((footlockerref01_Pow.f kj7 a0 a2).bind fun t164 => (if t163 = t164 then ((gf_Exp.f kj7 a2).bind fun t165 => ((footlockerref01_Pow.f kj7 2 a2).bind fun t166 => (some (t165 == t166)))) else (some false)))) else (some false))) else (some false)) else (some false)))) else (some false)))) else (some false))) = some r := H
          have A17 := Aside0.mk A170
          clear A170
          replace H := Option.bind_eq_some_iff.mp H
          obtain ⟨t154, A180, H⟩ := H
          replace H : (if t154 = (Go.bits .xor .u8 a0 a1) then ((gf_Mul.f kj7 a0 a1).bind fun t155 => ((footlockerref01_Mul.f kj7 a0 a1).bind fun t156 => (if t155 = t156 then ((gf_Inv.f kj7 a0).bind fun t157 => ((footlockerref01_Inv.f kj7 a0).bind fun t158 => (if t157 = t158 then (if (t149 == (a1 != 0)) = true then (if t149 = true then (if t148 = t153 then ((gf_Pow.f kj7 a0 a2).bind fun t159 => ((footlockerref01_Pow.f kj7 a0 a2).bind fun t160 => (if t159 = t160 then ((gf_Exp.f kj7 a2).bind fun t161 => ((footlockerref01_Pow.f kj7 2 a2).bind fun t162 => (some (t161 == t162)))) else (some false)))) else (some false)) else (if t148 = 0 then ((gf_Pow.f kj7 a0 a2).bind fun t163 => ((footlockerref01_Pow.f kj7 a0 a2).bind fun t164 => (if t163 = t164 then ((gf_Exp.f kj7 a2).bind fun t165 => ((footlockerref01_Pow.f kj7 2 a2).bind fun t166 => (some (t165 == t166)))) else (some false)))) else (some false))) else (some false)) else (some false)))) else (some false)))) else (some false)) = some r := H
          have A18 := Aside0.mk A180
          clear A180
          by_cases c19 : t154 = (Go.bits .xor .u8 a0 a1)
          · rw [if_pos c19] at H
            have c19b0 : (t154 == (Go.bits .xor .u8 a0 a1)) = true := beq_iff_eq.mpr c19
            have c19b1 : (t154 != (Go.bits .xor .u8 a0 a1)) = false := bne_eq_false_iff_eq.mpr c19
            clear c19
            replace H := Option.bind_eq_some_iff.mp H
            obtain ⟨t155, A200, H⟩ := H
            replace H : ((footlockerref01_Mul.f kj7 a0 a1).bind fun t156 => (if t155 = t156 then ((gf_Inv.f kj7 a0).bind fun t157 => ((footlockerref01_Inv.f kj7 a0).bind fun t158 => (if t157 = t158 then (if (t149 == (a1 != 0)) = true then (if t149 = true then (if t148 = t153 then ((gf_Pow.f kj7 a0 a2).bind fun t159 => ((footlockerref01_Pow.f kj7 a0 a2).bind fun t160 => (if t159 = t160 then ((gf_Exp.f kj7 a2).bind fun t161 => ((footlockerref01_Pow.f kj7 2 a2).bind fun t162 => (some (t161 == t162)))) else (some false)))) else (some false)) else (if t148 = 0 then ((gf_Pow.f kj7 a0 a2).bind fun t163 => ((footlockerref01_Pow.f kj7 a0 a2).bind fun t164 => (if t163 = t164 then ((gf_Exp.f kj7 a2).bind fun t165 => ((footlockerref01_Pow.f kj7 2 a2).bind fun t166 => (some (t165 == t166)))) else (some false)))) else (some false))) else (some false)) else (some false)))) else (some false))) = some r := H
            have A20 := Aside0.mk A200
            clear A200
            replace H := Option.bind_eq_some_iff.mp H
            obtain ⟨t156, A210, H⟩ := H
            replace H : (if t155 = t156 then ((gf_Inv.f kj7 a0).bind fun t157 => ((footlockerref01_Inv.f kj7 a0).bind fun t158 => (if t157 = t158 then (if (t149 == (a1 != 0)) = true then (if t149 = true then (if t148 = t153 then ((gf_Pow.f kj7 a0 a2).bind fun t159 => ((footlockerref01_Pow.f kj7 a0 a2).bind fun t160 => (if t159 = t160 then ((gf_Exp.f kj7 a2).bind fun t161 => ((footlockerref01_Pow.f kj7 2 a2).bind fun t162 => (some (t161 == t162)))) else (some false)))) else (some false)) else (if t148 = 0 then ((gf_Pow.f kj7 a0 a2).bind fun t163 => ((footlockerref01_Pow.f kj7 a0 a2).bind fun t164 => (if t163 = t164 then ((gf_Exp.f kj7 a2).bind fun t165 => ((footlockerref01_Pow.f kj7 2 a2).bind fun t166 => (some (t165 == t166)))) else (some false)))) else (some false))) else (some false)) else (some false)))) else (some false)) = some r := H
            have A21 := Aside0.mk A210
            clear A210
            by_cases c22 : t155 = t156
            · rw [if_pos c22] at H
              have c22b0 : (t155 == t156) = true := beq_iff_eq.mpr c22
              have c22b1 : (t155 != t156) = false := bne_eq_false_iff_eq.mpr c22
              clear c22
              replace H := Option.bind_eq_some_iff.mp H
              obtain ⟨t157, A230, H⟩ := H
              replace H : ((footlockerref01_Inv.f kj7 a0).bind fun t158 => (if t157 = t158 then (if (t149 == (a1 != 0)) = true then (if t149 = true then (if t148 = t153 then ((gf_Pow.f kj7 a0 a2).bind fun t159 => ((footlockerref01_Pow.f kj7 a0 a2).bind fun t160 => (if t159 = t160 then ((gf_Exp.f kj7 a2).bind fun t161 => ((footlockerref01_Pow.f kj7 2 a2).bind fun t162 => (some (t161 == t162)))) else (some false)))) else (some false)) else (if t148 = 0 then ((gf_Pow.f kj7 a0 a2).bind fun t163 => ((footlockerref01_Pow.f kj7 a0 a2).bind fun t164 => (if t163 = t164 then ((gf_Exp.f kj7 a2).bind fun t165 => ((footlockerref01_Pow.f kj7 2 a2).bind fun t166 => (some (t165 == t166)))) else (some false)))) else (some false))) else (some false)) else (some false))) = some r := H
              have A23 := Aside0.mk A230
              clear A230
              replace H := Option.bind_eq_some_iff.mp H
              obtain ⟨t158, A240, H⟩ := H
              replace H : (if t157 = t158 then (if (t149 == (a1 != 0)) = true then (if t149 = true then (if t148 = t153 then ((gf_Pow.f kj7 a0 a2).bind fun t159 => ((footlockerref01_Pow.f kj7 a0 a2).bind fun t160 => (if t159 = t160 then ((gf_Exp.f kj7 a2).bind fun t161 => ((footlockerref01_Pow.f kj7 2 a2).bind fun t162 => (some (t161 == t162)))) else (some false)))) else (some false)) else (if t148 = 0 then ((gf_Pow.f kj7 a0 a2).bind fun t163 => ((footlockerref01_Pow.f kj7 a0 a2).bind fun t164 => (if t163 = t164 then ((gf_Exp.f kj7 a2).bind fun t165 => ((footlockerref01_Pow.f kj7 2 a2).bind fun t166 => (some (t165 == t166)))) else (some false)))) else (some false))) else (some false)) else (some false)) = some r := H
              have A24 := Aside0.mk A240
              clear A240
              by_cases c25 : t157 = t158
              · rw [if_pos c25] at H
                have c25b0 : (t157 == t158) = true := beq_iff_eq.mpr c25
                have c25b1 : (t157 != t158) = false := bne_eq_false_iff_eq.mpr c25
                clear c25
                by_cases c26 : (t149 == (a1 != 0)) = true
                · rw [if_pos c26] at H
                  have c26b0 : (t149 == (a1 != 0)) = true := c26
                  (try (have c26b1 : decide (t149 = (a1 != 0)) = true := by simpa using c26))
                  (try (have c26b2 : (t149 == (a1 != 0)) = true := by simpa using c26))
                  clear c26
                  by_cases c27 : t149 = true
                  · subst c27
                    have H1 : (if t148 = t153 then ((gf_Pow.f kj7 a0 a2).bind fun t159 => ((footlockerref01_Pow.f kj7 a0 a2).bind fun t160 => (if t159 = t160 then ((gf_Exp.f kj7 a2).bind fun t161 => ((footlockerref01_Pow.f kj7 2 a2).bind fun t162 => (some (t161 == t162)))) else (some false)))) else (some false)) = some r := by rw [if_pos rfl] at H; exact H
                    clear H
                    have H := H1
                    clear H1
                    by_cases c28 : t148 = t153
                    · rw [if_pos c28] at H
                      have c28b0 : (t148 == t153) = true := beq_iff_eq.mpr c28
                      have c28b1 : (t148 != t153) = false := bne_eq_false_iff_eq.mpr c28
                      clear c28
                      replace H := Option.bind_eq_some_iff.mp H
                      obtain ⟨t159, A290, H⟩ := H
                      replace H : ((footlockerref01_Pow.f kj7 a0 a2).bind fun t160 => (if t159 = t160 then ((gf_Exp.f kj7 a2).bind fun t161 => ((footlockerref01_Pow.f kj7 2 a2).bind fun t162 => (some (t161 == t162)))) else (some false))) = some r := H
                      have A29 := Aside0.mk A290
                      clear A290
                      replace H := Option.bind_eq_some_iff.mp H
                      obtain ⟨t160, A300, H⟩ := H
                      replace H : (if t159 = t160 then ((gf_Exp.f kj7 a2).bind fun t161 => ((footlockerref01_Pow.f kj7 2 a2).bind fun t162 => (some (t161 == t162)))) else (some false)) = some r := H
                      have A30 := Aside0.mk A300
                      clear A300
                      by_cases c31 : t159 = t160
                      · rw [if_pos c31] at H
                        have c31b0 : (t159 == t160) = true := beq_iff_eq.mpr c31
                        have c31b1 : (t159 != t160) = false := bne_eq_false_iff_eq.mpr c31
                        clear c31
                        replace H := Option.bind_eq_some_iff.mp H
                        obtain ⟨t161, A320, H⟩ := H
                        replace H : ((footlockerref01_Pow.f kj7 2 a2).bind fun t162 => (some (t161 == t162))) = some r := H
                        have A32 := Aside0.mk A320
                        clear A320
                        replace H := Option.bind_eq_some_iff.mp H
                        obtain ⟨t162, A330, H⟩ := H
                        replace H : (some (t161 == t162)) = some r := H
                        have A33 := Aside0.mk A330
                        clear A330
                        obtain rfl := Option.some.inj H
                        go_wp2_with (first | ((with_reducible refine gate_callee (f := 14) rfl ?_); refine goesL_ (some 47) rfl rfl Try.func14 (by kernel_rfl) rfl #[.int .u8 a1] rfl (by (try simp only [List.map_toArray, List.map_cons, List.map_nil]); first | done | rfl | (simp only [List.length_drop, List.length_take]; rfl)) ?_; (with_reducible refine (footlockerref01_Inv.calls kj7 a1 t152 _ A16.out).mono ?_); rintro e w' ⟨rfl, ⟨nd, rfl⟩⟩; refine ⟨_, rfl, ?_⟩) | ((with_reducible refine gate_callee (f := 13) rfl ?_); refine goesL_ (some 48) rfl rfl Try.func13 (by kernel_rfl) rfl #[.int .u8 a0, .int .u8 t152] rfl (by (try simp only [List.map_toArray, List.map_cons, List.map_nil]); first | done | rfl | (simp only [List.length_drop, List.length_take]; rfl)) ?_; (with_reducible refine (footlockerref01_Mul.calls kj7 a0 t152 t153 _ A17.out).mono ?_); rintro e w' ⟨rfl, ⟨nd, rfl⟩⟩; refine ⟨_, rfl, ?_⟩) | ((with_reducible refine gate_callee (f := 15) rfl ?_); refine goesL_ (some 51) rfl rfl Try.func15 (by kernel_rfl) rfl #[.int .u8 a0, .int .u8 a1] rfl (by (try simp only [List.map_toArray, List.map_cons, List.map_nil]); first | done | rfl | (simp only [List.length_drop, List.length_take]; rfl)) ?_; (with_reducible refine (gf_Add.calls a0 a1 t154 _ A18.out).mono ?_); rintro e w' ⟨rfl, ⟨nd, rfl⟩⟩; refine ⟨_, rfl, ?_⟩) | (go_at_call 16; (with_reducible refine (gf_Mul.calls kj7 a0 a1 t155 _ A20.out).mono ?_); rintro e w' ⟨rfl, ⟨nd, rfl⟩⟩) | (go_at_call 13; (with_reducible refine (footlockerref01_Mul.calls kj7 a0 a1 t156 _ A21.out).mono ?_); rintro e w' ⟨rfl, ⟨nd, rfl⟩⟩) | (go_at_call 17; (with_reducible refine (gf_Inv.calls kj7 a0 t157 _ A23.out).mono ?_); rintro e w' ⟨rfl, ⟨nd, rfl⟩⟩) | (go_at_call 14; (with_reducible refine (footlockerref01_Inv.calls kj7 a0 t158 _ A24.out).mono ?_); rintro e w' ⟨rfl, ⟨nd, rfl⟩⟩) | (go_at_call 18; (with_reducible refine (gf_Pow.calls kj7 a0 a2 t159 _ A29.out).mono ?_); rintro e w' ⟨rfl, ⟨nd, rfl⟩⟩) | (go_at_call 12; (with_reducible refine (footlockerref01_Pow.calls kj7 a0 a2 t160 _ A30.out).mono ?_); rintro e w' ⟨rfl, ⟨nd, rfl⟩⟩) | (go_at_call 19; (with_reducible refine (gf_Exp.calls kj7 a2 t161 _ A32.out).mono ?_); rintro e w' ⟨rfl, ⟨nd, rfl⟩⟩) | (go_at_call 12; (with_reducible refine (footlockerref01_Pow.calls kj7 2 a2 t162 _ A33.out).mono ?_); rintro e w' ⟨rfl, ⟨nd, rfl⟩⟩))
                        go_ret
                        exact ⟨by first | rfl | (simp [errW_none, errW_some] <;> rfl) | (simp [*, errW_none, errW_some] <;> rfl), by repeat (first | (with_reducible first | exact HB.out | apply below_alloc | apply pw_below_drewN | apply below_drew1) | exact HB.out)⟩
                      · rw [if_neg c31] at H
                        have c31b0 : (t159 == t160) = false := beq_eq_false_iff_ne.mpr c31
                        have c31b1 : (t159 != t160) = true := bne_iff_ne.mpr c31
                        obtain rfl := Option.some.inj H
                        go_wp2_with (first | ((with_reducible refine gate_callee (f := 14) rfl ?_); refine goesL_ (some 47) rfl rfl Try.func14 (by kernel_rfl) rfl #[.int .u8 a1] rfl (by (try simp only [List.map_toArray, List.map_cons, List.map_nil]); first | done | rfl | (simp only [List.length_drop, List.length_take]; rfl)) ?_; (with_reducible refine (footlockerref01_Inv.calls kj7 a1 t152 _ A16.out).mono ?_); rintro e w' ⟨rfl, ⟨nd, rfl⟩⟩; refine ⟨_, rfl, ?_⟩) | ((with_reducible refine gate_callee (f := 13) rfl ?_); refine goesL_ (some 48) rfl rfl Try.func13 (by kernel_rfl) rfl #[.int .u8 a0, .int .u8 t152] rfl (by (try simp only [List.map_toArray, List.map_cons, List.map_nil]); first | done | rfl | (simp only [List.length_drop, List.length_take]; rfl)) ?_; (with_reducible refine (footlockerref01_Mul.calls kj7 a0 t152 t153 _ A17.out).mono ?_); rintro e w' ⟨rfl, ⟨nd, rfl⟩⟩; refine ⟨_, rfl, ?_⟩) | ((with_reducible refine gate_callee (f := 15) rfl ?_); refine goesL_ (some 51) rfl rfl Try.func15 (by kernel_rfl) rfl #[.int .u8 a0, .int .u8 a1] rfl (by (try simp only [List.map_toArray, List.map_cons, List.map_nil]); first | done | rfl | (simp only [List.length_drop, List.length_take]; rfl)) ?_; (with_reducible refine (gf_Add.calls a0 a1 t154 _ A18.out).mono ?_); rintro e w' ⟨rfl, ⟨nd, rfl⟩⟩; refine ⟨_, rfl, ?_⟩) | (go_at_call 16; (with_reducible refine (gf_Mul.calls kj7 a0 a1 t155 _ A20.out).mono ?_); rintro e w' ⟨rfl, ⟨nd, rfl⟩⟩) | (go_at_call 13; (with_reducible refine (footlockerref01_Mul.calls kj7 a0 a1 t156 _ A21.out).mono ?_); rintro e w' ⟨rfl, ⟨nd, rfl⟩⟩) | (go_at_call 17; (with_reducible refine (gf_Inv.calls kj7 a0 t157 _ A23.out).mono ?_); rintro e w' ⟨rfl, ⟨nd, rfl⟩⟩) | (go_at_call 14; (with_reducible refine (footlockerref01_Inv.calls kj7 a0 t158 _ A24.out).mono ?_); rintro e w' ⟨rfl, ⟨nd, rfl⟩⟩) | (go_at_call 18; (with_reducible refine (gf_Pow.calls kj7 a0 a2 t159 _ A29.out).mono ?_); rintro e w' ⟨rfl, ⟨nd, rfl⟩⟩) | (go_at_call 12; (with_reducible refine (footlockerref01_Pow.calls kj7 a0 a2 t160 _ A30.out).mono ?_); rintro e w' ⟨rfl, ⟨nd, rfl⟩⟩))
                        go_ret
                        exact ⟨by first | rfl | (simp [errW_none, errW_some] <;> rfl) | (simp [*, errW_none, errW_some] <;> rfl), by repeat (first | (with_reducible first | exact HB.out | apply below_alloc | apply pw_below_drewN | apply below_drew1) | exact HB.out)⟩
                    · rw [if_neg c28] at H
                      have c28b0 : (t148 == t153) = false := beq_eq_false_iff_ne.mpr c28
                      have c28b1 : (t148 != t153) = true := bne_iff_ne.mpr c28
                      obtain rfl := Option.some.inj H
                      go_wp2_with (first | ((with_reducible refine gate_callee (f := 14) rfl ?_); refine goesL_ (some 47) rfl rfl Try.func14 (by kernel_rfl) rfl #[.int .u8 a1] rfl (by (try simp only [List.map_toArray, List.map_cons, List.map_nil]); first | done | rfl | (simp only [List.length_drop, List.length_take]; rfl)) ?_; (with_reducible refine (footlockerref01_Inv.calls kj7 a1 t152 _ A16.out).mono ?_); rintro e w' ⟨rfl, ⟨nd, rfl⟩⟩; refine ⟨_, rfl, ?_⟩) | ((with_reducible refine gate_callee (f := 13) rfl ?_); refine goesL_ (some 48) rfl rfl Try.func13 (by kernel_rfl) rfl #[.int .u8 a0, .int .u8 t152] rfl (by (try simp only [List.map_toArray, List.map_cons, List.map_nil]); first | done | rfl | (simp only [List.length_drop, List.length_take]; rfl)) ?_; (with_reducible refine (footlockerref01_Mul.calls kj7 a0 t152 t153 _ A17.out).mono ?_); rintro e w' ⟨rfl, ⟨nd, rfl⟩⟩; refine ⟨_, rfl, ?_⟩) | ((with_reducible refine gate_callee (f := 15) rfl ?_); refine goesL_ (some 51) rfl rfl Try.func15 (by kernel_rfl) rfl #[.int .u8 a0, .int .u8 a1] rfl (by (try simp only [List.map_toArray, List.map_cons, List.map_nil]); first | done | rfl | (simp only [List.length_drop, List.length_take]; rfl)) ?_; (with_reducible refine (gf_Add.calls a0 a1 t154 _ A18.out).mono ?_); rintro e w' ⟨rfl, ⟨nd, rfl⟩⟩; refine ⟨_, rfl, ?_⟩) | (go_at_call 16; (with_reducible refine (gf_Mul.calls kj7 a0 a1 t155 _ A20.out).mono ?_); rintro e w' ⟨rfl, ⟨nd, rfl⟩⟩) | (go_at_call 13; (with_reducible refine (footlockerref01_Mul.calls kj7 a0 a1 t156 _ A21.out).mono ?_); rintro e w' ⟨rfl, ⟨nd, rfl⟩⟩) | (go_at_call 17; (with_reducible refine (gf_Inv.calls kj7 a0 t157 _ A23.out).mono ?_); rintro e w' ⟨rfl, ⟨nd, rfl⟩⟩) | (go_at_call 14; (with_reducible refine (footlockerref01_Inv.calls kj7 a0 t158 _ A24.out).mono ?_); rintro e w' ⟨rfl, ⟨nd, rfl⟩⟩))
                      go_ret
                      exact ⟨by first | rfl | (simp [errW_none, errW_some] <;> rfl) | (simp [*, errW_none, errW_some] <;> rfl), by repeat (first | (with_reducible first | exact HB.out | apply below_alloc | apply pw_below_drewN | apply below_drew1) | exact HB.out)⟩
                  · replace c27 := Bool.eq_false_iff.mpr c27
                    subst c27
                    have H1 : (if t148 = 0 then ((gf_Pow.f kj7 a0 a2).bind fun t163 => ((footlockerref01_Pow.f kj7 a0 a2).bind fun t164 => (if t163 = t164 then ((gf_Exp.f kj7 a2).bind fun t165 => ((footlockerref01_Pow.f kj7 2 a2).bind fun t166 => (some (t165 == t166)))) else (some false)))) else (some false)) = some r := by rw [if_neg (show ¬ (false = true) by decide)] at H; exact H
                    clear H
                    have H := H1
                    clear H1
                    by_cases c34 : t148 = 0
                    · rw [if_pos c34] at H
                      have c34b0 : (t148 == 0) = true := beq_iff_eq.mpr c34
                      have c34b1 : (t148 != 0) = false := bne_eq_false_iff_eq.mpr c34
                      clear c34
                      replace H := Option.bind_eq_some_iff.mp H
                      obtain ⟨t163, A350, H⟩ := H
                      replace H : ((footlockerref01_Pow.f kj7 a0 a2).bind fun t164 => (if t163 = t164 then ((gf_Exp.f kj7 a2).bind fun t165 => ((footlockerref01_Pow.f kj7 2 a2).bind fun t166 => (some (t165 == t166)))) else (some false))) = some r := H
                      have A35 := Aside0.mk A350
                      clear A350
                      replace H := Option.bind_eq_some_iff.mp H
                      obtain ⟨t164, A360, H⟩ := H
                      replace H : (if t163 = t164 then ((gf_Exp.f kj7 a2).bind fun t165 => ((footlockerref01_Pow.f kj7 2 a2).bind fun t166 => (some (t165 == t166)))) else (some false)) = some r := H
                      have A36 := Aside0.mk A360
                      clear A360
                      by_cases c37 : t163 = t164
                      · rw [if_pos c37] at H
                        have c37b0 : (t163 == t164) = true := beq_iff_eq.mpr c37
                        have c37b1 : (t163 != t164) = false := bne_eq_false_iff_eq.mpr c37
                        clear c37
                        replace H := Option.bind_eq_some_iff.mp H
                        obtain ⟨t165, A380, H⟩ := H
                        replace H : ((footlockerref01_Pow.f kj7 2 a2).bind fun t166 => (some (t165 == t166))) = some r := H
                        have A38 := Aside0.mk A380
                        clear A380
                        replace H := Option.bind_eq_some_iff.mp H
                        obtain ⟨t166, A390, H⟩ := H
                        replace H : (some (t165 == t166)) = some r := H
                        have A39 := Aside0.mk A390
                        clear A390
                        obtain rfl := Option.some.inj H
                        go_wp2_with (first | ((with_reducible refine gate_callee (f := 14) rfl ?_); refine goesL_ (some 47) rfl rfl Try.func14 (by kernel_rfl) rfl #[.int .u8 a1] rfl (by (try simp only [List.map_toArray, List.map_cons, List.map_nil]); first | done | rfl | (simp only [List.length_drop, List.length_take]; rfl)) ?_; (with_reducible refine (footlockerref01_Inv.calls kj7 a1 t152 _ A16.out).mono ?_); rintro e w' ⟨rfl, ⟨nd, rfl⟩⟩; refine ⟨_, rfl, ?_⟩) | ((with_reducible refine gate_callee (f := 13) rfl ?_); refine goesL_ (some 48) rfl rfl Try.func13 (by kernel_rfl) rfl #[.int .u8 a0, .int .u8 t152] rfl (by (try simp only [List.map_toArray, List.map_cons, List.map_nil]); first | done | rfl | (simp only [List.length_drop, List.length_take]; rfl)) ?_; (with_reducible refine (footlockerref01_Mul.calls kj7 a0 t152 t153 _ A17.out).mono ?_); rintro e w' ⟨rfl, ⟨nd, rfl⟩⟩; refine ⟨_, rfl, ?_⟩) | ((with_reducible refine gate_callee (f := 15) rfl ?_); refine goesL_ (some 51) rfl rfl Try.func15 (by kernel_rfl) rfl #[.int .u8 a0, .int .u8 a1] rfl (by (try simp only [List.map_toArray, List.map_cons, List.map_nil]); first | done | rfl | (simp only [List.length_drop, List.length_take]; rfl)) ?_; (with_reducible refine (gf_Add.calls a0 a1 t154 _ A18.out).mono ?_); rintro e w' ⟨rfl, ⟨nd, rfl⟩⟩; refine ⟨_, rfl, ?_⟩) | (go_at_call 16; (with_reducible refine (gf_Mul.calls kj7 a0 a1 t155 _ A20.out).mono ?_); rintro e w' ⟨rfl, ⟨nd, rfl⟩⟩) | (go_at_call 13; (with_reducible refine (footlockerref01_Mul.calls kj7 a0 a1 t156 _ A21.out).mono ?_); rintro e w' ⟨rfl, ⟨nd, rfl⟩⟩) | (go_at_call 17; (with_reducible refine (gf_Inv.calls kj7 a0 t157 _ A23.out).mono ?_); rintro e w' ⟨rfl, ⟨nd, rfl⟩⟩) | (go_at_call 14; (with_reducible refine (footlockerref01_Inv.calls kj7 a0 t158 _ A24.out).mono ?_); rintro e w' ⟨rfl, ⟨nd, rfl⟩⟩) | (go_at_call 18; (with_reducible refine (gf_Pow.calls kj7 a0 a2 t163 _ A35.out).mono ?_); rintro e w' ⟨rfl, ⟨nd, rfl⟩⟩) | (go_at_call 12; (with_reducible refine (footlockerref01_Pow.calls kj7 a0 a2 t164 _ A36.out).mono ?_); rintro e w' ⟨rfl, ⟨nd, rfl⟩⟩) | (go_at_call 19; (with_reducible refine (gf_Exp.calls kj7 a2 t165 _ A38.out).mono ?_); rintro e w' ⟨rfl, ⟨nd, rfl⟩⟩) | (go_at_call 12; (with_reducible refine (footlockerref01_Pow.calls kj7 2 a2 t166 _ A39.out).mono ?_); rintro e w' ⟨rfl, ⟨nd, rfl⟩⟩))
                        go_ret
                        exact ⟨by first | rfl | (simp [errW_none, errW_some] <;> rfl) | (simp [*, errW_none, errW_some] <;> rfl), by repeat (first | (with_reducible first | exact HB.out | apply below_alloc | apply pw_below_drewN | apply below_drew1) | exact HB.out)⟩
                      · rw [if_neg c37] at H
                        have c37b0 : (t163 == t164) = false := beq_eq_false_iff_ne.mpr c37
                        have c37b1 : (t163 != t164) = true := bne_iff_ne.mpr c37
                        obtain rfl := Option.some.inj H
                        go_wp2_with (first | ((with_reducible refine gate_callee (f := 14) rfl ?_); refine goesL_ (some 47) rfl rfl Try.func14 (by kernel_rfl) rfl #[.int .u8 a1] rfl (by (try simp only [List.map_toArray, List.map_cons, List.map_nil]); first | done | rfl | (simp only [List.length_drop, List.length_take]; rfl)) ?_; (with_reducible refine (footlockerref01_Inv.calls kj7 a1 t152 _ A16.out).mono ?_); rintro e w' ⟨rfl, ⟨nd, rfl⟩⟩; refine ⟨_, rfl, ?_⟩) | ((with_reducible refine gate_callee (f := 13) rfl ?_); refine goesL_ (some 48) rfl rfl Try.func13 (by kernel_rfl) rfl #[.int .u8 a0, .int .u8 t152] rfl (by (try simp only [List.map_toArray, List.map_cons, List.map_nil]); first | done | rfl | (simp only [List.length_drop, List.length_take]; rfl)) ?_; (with_reducible refine (footlockerref01_Mul.calls kj7 a0 t152 t153 _ A17.out).mono ?_); rintro e w' ⟨rfl, ⟨nd, rfl⟩⟩; refine ⟨_, rfl, ?_⟩) | ((with_reducible refine gate_callee (f := 15) rfl ?_); refine goesL_ (some 51) rfl rfl Try.func15 (by kernel_rfl) rfl #[.int .u8 a0, .int .u8 a1] rfl (by (try simp only [List.map_toArray, List.map_cons, List.map_nil]); first | done | rfl | (simp only [List.length_drop, List.length_take]; rfl)) ?_; (with_reducible refine (gf_Add.calls a0 a1 t154 _ A18.out).mono ?_); rintro e w' ⟨rfl, ⟨nd, rfl⟩⟩; refine ⟨_, rfl, ?_⟩) | (go_at_call 16; (with_reducible refine (gf_Mul.calls kj7 a0 a1 t155 _ A20.out).mono ?_); rintro e w' ⟨rfl, ⟨nd, rfl⟩⟩) | (go_at_call 13; (with_reducible refine (footlockerref01_Mul.calls kj7 a0 a1 t156 _ A21.out).mono ?_); rintro e w' ⟨rfl, ⟨nd, rfl⟩⟩) | (go_at_call 17; (with_reducible refine (gf_Inv.calls kj7 a0 t157 _ A23.out).mono ?_); rintro e w' ⟨rfl, ⟨nd, rfl⟩⟩) | (go_at_call 14; (with_reducible refine (footlockerref01_Inv.calls kj7 a0 t158 _ A24.out).mono ?_); rintro e w' ⟨rfl, ⟨nd, rfl⟩⟩) | (go_at_call 18; (with_reducible refine (gf_Pow.calls kj7 a0 a2 t163 _ A35.out).mono ?_); rintro e w' ⟨rfl, ⟨nd, rfl⟩⟩) | (go_at_call 12; (with_reducible refine (footlockerref01_Pow.calls kj7 a0 a2 t164 _ A36.out).mono ?_); rintro e w' ⟨rfl, ⟨nd, rfl⟩⟩))
                        go_ret
                        exact ⟨by first | rfl | (simp [errW_none, errW_some] <;> rfl) | (simp [*, errW_none, errW_some] <;> rfl), by repeat (first | (with_reducible first | exact HB.out | apply below_alloc | apply pw_below_drewN | apply below_drew1) | exact HB.out)⟩
                    · rw [if_neg c34] at H
                      have c34b0 : (t148 == 0) = false := beq_eq_false_iff_ne.mpr c34
                      have c34b1 : (t148 != 0) = true := bne_iff_ne.mpr c34
                      obtain rfl := Option.some.inj H
                      go_wp2_with (first | ((with_reducible refine gate_callee (f := 14) rfl ?_); refine goesL_ (some 47) rfl rfl Try.func14 (by kernel_rfl) rfl #[.int .u8 a1] rfl (by (try simp only [List.map_toArray, List.map_cons, List.map_nil]); first | done | rfl | (simp only [List.length_drop, List.length_take]; rfl)) ?_; (with_reducible refine (footlockerref01_Inv.calls kj7 a1 t152 _ A16.out).mono ?_); rintro e w' ⟨rfl, ⟨nd, rfl⟩⟩; refine ⟨_, rfl, ?_⟩) | ((with_reducible refine gate_callee (f := 13) rfl ?_); refine goesL_ (some 48) rfl rfl Try.func13 (by kernel_rfl) rfl #[.int .u8 a0, .int .u8 t152] rfl (by (try simp only [List.map_toArray, List.map_cons, List.map_nil]); first | done | rfl | (simp only [List.length_drop, List.length_take]; rfl)) ?_; (with_reducible refine (footlockerref01_Mul.calls kj7 a0 t152 t153 _ A17.out).mono ?_); rintro e w' ⟨rfl, ⟨nd, rfl⟩⟩; refine ⟨_, rfl, ?_⟩) | ((with_reducible refine gate_callee (f := 15) rfl ?_); refine goesL_ (some 51) rfl rfl Try.func15 (by kernel_rfl) rfl #[.int .u8 a0, .int .u8 a1] rfl (by (try simp only [List.map_toArray, List.map_cons, List.map_nil]); first | done | rfl | (simp only [List.length_drop, List.length_take]; rfl)) ?_; (with_reducible refine (gf_Add.calls a0 a1 t154 _ A18.out).mono ?_); rintro e w' ⟨rfl, ⟨nd, rfl⟩⟩; refine ⟨_, rfl, ?_⟩) | (go_at_call 16; (with_reducible refine (gf_Mul.calls kj7 a0 a1 t155 _ A20.out).mono ?_); rintro e w' ⟨rfl, ⟨nd, rfl⟩⟩) | (go_at_call 13; (with_reducible refine (footlockerref01_Mul.calls kj7 a0 a1 t156 _ A21.out).mono ?_); rintro e w' ⟨rfl, ⟨nd, rfl⟩⟩) | (go_at_call 17; (with_reducible refine (gf_Inv.calls kj7 a0 t157 _ A23.out).mono ?_); rintro e w' ⟨rfl, ⟨nd, rfl⟩⟩) | (go_at_call 14; (with_reducible refine (footlockerref01_Inv.calls kj7 a0 t158 _ A24.out).mono ?_); rintro e w' ⟨rfl, ⟨nd, rfl⟩⟩))
                      go_ret
                      exact ⟨by first | rfl | (simp [errW_none, errW_some] <;> rfl) | (simp [*, errW_none, errW_some] <;> rfl), by repeat (first | (with_reducible first | exact HB.out | apply below_alloc | apply pw_below_drewN | apply below_drew1) | exact HB.out)⟩
                · rw [if_neg c26] at H
                  have c26b0 : (t149 == (a1 != 0)) = false := by simpa using c26
                  (try (have c26b1 : decide (t149 = (a1 != 0)) = false := by simpa using c26))
                  (try (have c26b2 : (t149 == (a1 != 0)) = false := by simpa using c26))
                  (try (have c26b3 : ¬ (t149 = (a1 != 0)) := by simpa using c26))
                  clear c26
                  obtain rfl := Option.some.inj H
                  go_wp2_with (first | ((with_reducible refine gate_callee (f := 14) rfl ?_); refine goesL_ (some 47) rfl rfl Try.func14 (by kernel_rfl) rfl #[.int .u8 a1] rfl (by (try simp only [List.map_toArray, List.map_cons, List.map_nil]); first | done | rfl | (simp only [List.length_drop, List.length_take]; rfl)) ?_; (with_reducible refine (footlockerref01_Inv.calls kj7 a1 t152 _ A16.out).mono ?_); rintro e w' ⟨rfl, ⟨nd, rfl⟩⟩; refine ⟨_, rfl, ?_⟩) | ((with_reducible refine gate_callee (f := 13) rfl ?_); refine goesL_ (some 48) rfl rfl Try.func13 (by kernel_rfl) rfl #[.int .u8 a0, .int .u8 t152] rfl (by (try simp only [List.map_toArray, List.map_cons, List.map_nil]); first | done | rfl | (simp only [List.length_drop, List.length_take]; rfl)) ?_; (with_reducible refine (footlockerref01_Mul.calls kj7 a0 t152 t153 _ A17.out).mono ?_); rintro e w' ⟨rfl, ⟨nd, rfl⟩⟩; refine ⟨_, rfl, ?_⟩) | ((with_reducible refine gate_callee (f := 15) rfl ?_); refine goesL_ (some 51) rfl rfl Try.func15 (by kernel_rfl) rfl #[.int .u8 a0, .int .u8 a1] rfl (by (try simp only [List.map_toArray, List.map_cons, List.map_nil]); first | done | rfl | (simp only [List.length_drop, List.length_take]; rfl)) ?_; (with_reducible refine (gf_Add.calls a0 a1 t154 _ A18.out).mono ?_); rintro e w' ⟨rfl, ⟨nd, rfl⟩⟩; refine ⟨_, rfl, ?_⟩) | (go_at_call 16; (with_reducible refine (gf_Mul.calls kj7 a0 a1 t155 _ A20.out).mono ?_); rintro e w' ⟨rfl, ⟨nd, rfl⟩⟩) | (go_at_call 13; (with_reducible refine (footlockerref01_Mul.calls kj7 a0 a1 t156 _ A21.out).mono ?_); rintro e w' ⟨rfl, ⟨nd, rfl⟩⟩) | (go_at_call 17; (with_reducible refine (gf_Inv.calls kj7 a0 t157 _ A23.out).mono ?_); rintro e w' ⟨rfl, ⟨nd, rfl⟩⟩) | (go_at_call 14; (with_reducible refine (footlockerref01_Inv.calls kj7 a0 t158 _ A24.out).mono ?_); rintro e w' ⟨rfl, ⟨nd, rfl⟩⟩))
                  go_ret
                  exact ⟨by first | rfl | (simp [errW_none, errW_some] <;> rfl) | (simp [*, errW_none, errW_some] <;> rfl), by repeat (first | (with_reducible first | exact HB.out | apply below_alloc | apply pw_below_drewN | apply below_drew1) | exact HB.out)⟩
              · rw [if_neg c25] at H
                have c25b0 : (t157 == t158) = false := beq_eq_false_iff_ne.mpr c25
                have c25b1 : (t157 != t158) = true := bne_iff_ne.mpr c25
                obtain rfl := Option.some.inj H
                go_wp2_with (first | ((with_reducible refine gate_callee (f := 14) rfl ?_); refine goesL_ (some 47) rfl rfl Try.func14 (by kernel_rfl) rfl #[.int .u8 a1] rfl (by (try simp only [List.map_toArray, List.map_cons, List.map_nil]); first | done | rfl | (simp only [List.length_drop, List.length_take]; rfl)) ?_; (with_reducible refine (footlockerref01_Inv.calls kj7 a1 t152 _ A16.out).mono ?_); rintro e w' ⟨rfl, ⟨nd, rfl⟩⟩; refine ⟨_, rfl, ?_⟩) | ((with_reducible refine gate_callee (f := 13) rfl ?_); refine goesL_ (some 48) rfl rfl Try.func13 (by kernel_rfl) rfl #[.int .u8 a0, .int .u8 t152] rfl (by (try simp only [List.map_toArray, List.map_cons, List.map_nil]); first | done | rfl | (simp only [List.length_drop, List.length_take]; rfl)) ?_; (with_reducible refine (footlockerref01_Mul.calls kj7 a0 t152 t153 _ A17.out).mono ?_); rintro e w' ⟨rfl, ⟨nd, rfl⟩⟩; refine ⟨_, rfl, ?_⟩) | ((with_reducible refine gate_callee (f := 15) rfl ?_); refine goesL_ (some 51) rfl rfl Try.func15 (by kernel_rfl) rfl #[.int .u8 a0, .int .u8 a1] rfl (by (try simp only [List.map_toArray, List.map_cons, List.map_nil]); first | done | rfl | (simp only [List.length_drop, List.length_take]; rfl)) ?_; (with_reducible refine (gf_Add.calls a0 a1 t154 _ A18.out).mono ?_); rintro e w' ⟨rfl, ⟨nd, rfl⟩⟩; refine ⟨_, rfl, ?_⟩) | (go_at_call 16; (with_reducible refine (gf_Mul.calls kj7 a0 a1 t155 _ A20.out).mono ?_); rintro e w' ⟨rfl, ⟨nd, rfl⟩⟩) | (go_at_call 13; (with_reducible refine (footlockerref01_Mul.calls kj7 a0 a1 t156 _ A21.out).mono ?_); rintro e w' ⟨rfl, ⟨nd, rfl⟩⟩) | (go_at_call 17; (with_reducible refine (gf_Inv.calls kj7 a0 t157 _ A23.out).mono ?_); rintro e w' ⟨rfl, ⟨nd, rfl⟩⟩) | (go_at_call 14; (with_reducible refine (footlockerref01_Inv.calls kj7 a0 t158 _ A24.out).mono ?_); rintro e w' ⟨rfl, ⟨nd, rfl⟩⟩))
                go_ret
                exact ⟨by first | rfl | (simp [errW_none, errW_some] <;> rfl) | (simp [*, errW_none, errW_some] <;> rfl), by repeat (first | (with_reducible first | exact HB.out | apply below_alloc | apply pw_below_drewN | apply below_drew1) | exact HB.out)⟩
            · rw [if_neg c22] at H
              have c22b0 : (t155 == t156) = false := beq_eq_false_iff_ne.mpr c22
              have c22b1 : (t155 != t156) = true := bne_iff_ne.mpr c22
              obtain rfl := Option.some.inj H
              go_wp2_with (first | ((with_reducible refine gate_callee (f := 14) rfl ?_); refine goesL_ (some 47) rfl rfl Try.func14 (by kernel_rfl) rfl #[.int .u8 a1] rfl (by (try simp only [List.map_toArray, List.map_cons, List.map_nil]); first | done | rfl | (simp only [List.length_drop, List.length_take]; rfl)) ?_; (with_reducible refine (footlockerref01_Inv.calls kj7 a1 t152 _ A16.out).mono ?_); rintro e w' ⟨rfl, ⟨nd, rfl⟩⟩; refine ⟨_, rfl, ?_⟩) | ((with_reducible refine gate_callee (f := 13) rfl ?_); refine goesL_ (some 48) rfl rfl Try.func13 (by kernel_rfl) rfl #[.int .u8 a0, .int .u8 t152] rfl (by (try simp only [List.map_toArray, List.map_cons, List.map_nil]); first | done | rfl | (simp only [List.length_drop, List.length_take]; rfl)) ?_; (with_reducible refine (footlockerref01_Mul.calls kj7 a0 t152 t153 _ A17.out).mono ?_); rintro e w' ⟨rfl, ⟨nd, rfl⟩⟩; refine ⟨_, rfl, ?_⟩) | ((with_reducible refine gate_callee (f := 15) rfl ?_); refine goesL_ (some 51) rfl rfl Try.func15 (by kernel_rfl) rfl #[.int .u8 a0, .int .u8 a1] rfl (by (try simp only [List.map_toArray, List.map_cons, List.map_nil]); first | done | rfl | (simp only [List.length_drop, List.length_take]; rfl)) ?_; (with_reducible refine (gf_Add.calls a0 a1 t154 _ A18.out).mono ?_); rintro e w' ⟨rfl, ⟨nd, rfl⟩⟩; refine ⟨_, rfl, ?_⟩) | (go_at_call 16; (with_reducible refine (gf_Mul.calls kj7 a0 a1 t155 _ A20.out).mono ?_); rintro e w' ⟨rfl, ⟨nd, rfl⟩⟩) | (go_at_call 13; (with_reducible refine (footlockerref01_Mul.calls kj7 a0 a1 t156 _ A21.out).mono ?_); rintro e w' ⟨rfl, ⟨nd, rfl⟩⟩))
              go_ret
              exact ⟨by first | rfl | (simp [errW_none, errW_some] <;> rfl) | (simp [*, errW_none, errW_some] <;> rfl), by repeat (first | (with_reducible first | exact HB.out | apply below_alloc | apply pw_below_drewN | apply below_drew1) | exact HB.out)⟩
          · rw [if_neg c19] at H
            have c19b0 : (t154 == (Go.bits .xor .u8 a0 a1)) = false := beq_eq_false_iff_ne.mpr c19
            have c19b1 : (t154 != (Go.bits .xor .u8 a0 a1)) = true := bne_iff_ne.mpr c19
            obtain rfl := Option.some.inj H
            go_wp2_with (first | ((with_reducible refine gate_callee (f := 14) rfl ?_); refine goesL_ (some 47) rfl rfl Try.func14 (by kernel_rfl) rfl #[.int .u8 a1] rfl (by (try simp only [List.map_toArray, List.map_cons, List.map_nil]); first | done | rfl | (simp only [List.length_drop, List.length_take]; rfl)) ?_; (with_reducible refine (footlockerref01_Inv.calls kj7 a1 t152 _ A16.out).mono ?_); rintro e w' ⟨rfl, ⟨nd, rfl⟩⟩; refine ⟨_, rfl, ?_⟩) | ((with_reducible refine gate_callee (f := 13) rfl ?_); refine goesL_ (some 48) rfl rfl Try.func13 (by kernel_rfl) rfl #[.int .u8 a0, .int .u8 t152] rfl (by (try simp only [List.map_toArray, List.map_cons, List.map_nil]); first | done | rfl | (simp only [List.length_drop, List.length_take]; rfl)) ?_; (with_reducible refine (footlockerref01_Mul.calls kj7 a0 t152 t153 _ A17.out).mono ?_); rintro e w' ⟨rfl, ⟨nd, rfl⟩⟩; refine ⟨_, rfl, ?_⟩) | ((with_reducible refine gate_callee (f := 15) rfl ?_); refine goesL_ (some 51) rfl rfl Try.func15 (by kernel_rfl) rfl #[.int .u8 a0, .int .u8 a1] rfl (by (try simp only [List.map_toArray, List.map_cons, List.map_nil]); first | done | rfl | (simp only [List.length_drop, List.length_take]; rfl)) ?_; (with_reducible refine (gf_Add.calls a0 a1 t154 _ A18.out).mono ?_); rintro e w' ⟨rfl, ⟨nd, rfl⟩⟩; refine ⟨_, rfl, ?_⟩))
            go_ret
            exact ⟨by first | rfl | (simp [errW_none, errW_some] <;> rfl) | (simp [*, errW_none, errW_some] <;> rfl), by repeat (first | (with_reducible first | exact HB.out | apply below_alloc | apply pw_below_drewN | apply below_drew1) | exact HB.out)⟩
  · replace c5 := Bool.eq_false_iff.mpr c5
    subst c5
    have H1 : (some false) = some r := by rw [if_neg (show ¬ (false = true) by decide)] at H; exact H
    clear H
    have H := H1
    clear H1
    obtain rfl := Option.some.inj H
    go_enter Try.func3, Try.ntmps3
    go_wp2_with (first | ((with_reducible refine gate_callee (f := 9) rfl ?_); refine goesL_ (some 11) rfl rfl Try.func9 (by kernel_rfl) rfl #[] rfl (by (try simp only [List.map_toArray, List.map_cons, List.map_nil]); first | done | rfl | (simp only [List.length_drop, List.length_take]; rfl)) ?_; (with_reducible refine (footlockerlaw01_alive.calls k  false _ A4.out).mono ?_); rintro e w40 ⟨rfl, hb⟩; refine ⟨_, rfl, ?_⟩; have n0_ := Aside0.mk (below_step (by repeat (first | (with_reducible first | exact HB.out | apply below_alloc | apply pw_below_drewN | apply below_drew1) | exact HB.out)) hb); clear HB; have HB := n0_; clear n0_; (try clear hb); (try clear hb2); (try clear hk); (try clear hi)))
    go_ret
    exact ⟨by first | rfl | (simp [errW_none, errW_some] <;> rfl) | (simp [*, errW_none, errW_some] <;> rfl), by repeat (first | (with_reducible first | exact HB.out | apply below_alloc | apply pw_below_drewN | apply below_drew1) | exact HB.out)⟩

/-- THE ONE PURE STATEMENT of footlockerlaw01_GfBytes: yours. -/
def footlockerlaw01_GfBytes.Pure : Prop := ∀ (a0 : Int) (a1 : Int) (a2 : Int), (Lit.int .u8 a0).wf = true → (Lit.int .u8 a1).wf = true → (Lit.int .i64 a2).wf = true → ∃ k, footlockerlaw01_GfBytes.f k a0 a1 a2 = some true
theorem footlockerlaw01_GfBytes.walk (P : footlockerlaw01_GfBytes.Pure) (a0 : Int) (a1 : Int) (a2 : Int) (w : World) (w0 : (Lit.int .u8 a0).wf = true) (w1 : (Lit.int .u8 a1).wf = true) (w2 : (Lit.int .i64 a2).wf = true) :
    Calls Try.prog 3 #[.int .u8 a0, .int .u8 a1, .int .i64 a2] w fun e w' => e = .returned (.bool true) ∧ Below w.heap.size w w' := by
  obtain ⟨k, h⟩ := P a0 a1 a2 w0 w1 w2
  refine (footlockerlaw01_GfBytes.calls k a0 a1 a2 true w h).mono ?_
  rintro e w' ⟨rfl, hd⟩
  exact ⟨rfl, hd⟩

end Go.Proofs.Ytegnjcehklldpaa.Q
