-- Laid by lawrow.py: the row of the law StampOrders, out of the abstract machine's word. Not trusted: Lean checks it.
import Derived.Test.YtcmlfpfbbopclaaDoorRows
import Derived.Test.YtcmlfpfbbopclaaDoorTie
import Derived.Test.YtcmlfpfbbopclaaDoorCards
import Derived.LaidMore
import Derived.SevenTiedAt
import Derived.Stop.Joined
import Derived.Test.YtcmlfpfbbopclaaDoorAbGlue
import Derived.Test.YtcmlfpfbbopclaaDoorAbVG
import Derived.Test.YtcmlfpfbbopclaaDoorAbVStamp
import Derived.Test.YtcmlfpfbbopclaaDoorAbVStamp2
import Derived.Test.YtcmlfpfbbopclaaDoorAbVStampR
import Derived.Test.YtcmlfpfbbopclaaDoorAbVLaw
import Derived.Test.YtcmlfpfbbopclaaDoorAbVRow
import Derived.WalkKit
import Derived.ProofKit
import Derived.OpenShut
import Derived.ShutString
import Derived.ChangeOld
import Derived.Below
import Derived.SizedLaws
import Derived.KernelRfl
set_option linter.unusedVariables false
namespace Go.Proofs.YtcmlfpfbbopclaaDoor.stampOrders
open Go.ChangeShapes Go.WideShapes Go.ChangeAt Go.RowKit Go.Proofs.AbM Go.Proofs.YtcmlfpfbbopclaaDoor.VG Go.Proofs.YtcmlfpfbbopclaaDoor.VStamp Go.Proofs.YtcmlfpfbbopclaaDoor.VStamp2 Go.Proofs.YtcmlfpfbbopclaaDoor.VStampR Go.Proofs.YtcmlfpfbbopclaaDoor.VLaw Go.Proofs.YtcmlfpfbbopclaaDoor.VRow
theorem own : ownKnob Tryd.prog.godebug = none := by kernel_rfl
theorem laidOut : laidOutB Tryd.prog = true := by kernel_rfl
def laid2 : List (String × DataW Unit) := [("footlocker/stamp.days", Rows.laid_footlocker_stamp_days)]
set_option maxRecDepth 100000 in
theorem door_met (os : Os) (args : Array Value) : laidMetH Tryd.prog laid2 ((World.doorLaid Tryd.prog 14 os).forCall (fun _ _ => 0) ⟨#[], args, []⟩).memory :=
  laidMetH_of_parts3 (fuel := 8) (laidMet_of_run' 8 (by kernel_rfl) (by kernel_rfl)) (by kernel_rfl) (by kernel_rfl)
set_option maxRecDepth 100000 in
theorem lifted (os : Os) (started : os.Started) (H : Type) (enc : TypeId × Value → H) :
    ReturnsInHanded {} Tryd.checked os 4 .any (fun w args => (Rows.stampOrdersSpec.pre enc Tryd.prog Tryd.f4 [] false w args ∧ laidMetH Tryd.prog laid2 w) ∧ sizedMet enc Tryd.prog Tryd.f4 (OpenSpec.ofChange Rows.stampOrdersSpec) false w args) (Rows.stampOrdersSpec.post enc Tryd.prog Tryd.f4 false true false false) := by
  refine returnsInHanded_of_change_and (C := Tryd.checked) (X := fun w _ => laidMetH Tryd.prog laid2 w) (fun _ _ _ hh h => h.of_heap hh) own started (by kernel_rfl) Tryd.func4
    (ChangeSpec.witness_shaped (enc := enc) (C := Tryd.checked) (os := os) (X := fun w _ => laidMetH Tryd.prog laid2 w) false (World.doorLaid Tryd.prog 14 os) #[.agg #[.int .i64 0, .int .i64 0, .int .i64 0, .int .i64 0, .int .i64 0, .int .i64 0], .agg #[.int .i64 0, .int .i64 0, .int .i64 0, .int .i64 0, .int .i64 0, .int .i64 0], .int .u16 0, .int .u16 0] 8 rfl (World.shaped_of_RefB (by kernel_rfl) (by kernel_rfl)) (by kernel_rfl) (by kernel_rfl) (by kernel_rfl) (door_met os _)) ?_
  intro W base args ds gs before hval0 hW hcnd hsz0 hL _
  have hsz : (DataW.weightsEach Tryd.prog (Tryd.f4.params.toList ++ Rows.stampOrdersSpec.plain.varTypes Tryd.prog) (ds ++ gs)).all (· ≤ reachBytes) = true := hsz0
  have hval : ∀ (j : Nat) t v, Tryd.f4.params[j]? = some t → args[j]? = some v → Value.okWide Tryd.prog W .any base t v := hval0
  have hW' := hW
  obtain ⟨p, q, hA0, hV, rfl, hfz, hnd⟩ := hW
  have hA : DataW.TrodAll enc Tryd.prog W 0 (fun _ => true) true Tryd.f4.params.toList args.toList ds p := hA0
  rw [Tryd.params4] at hA hval hsz
  obtain ⟨rfl, rfl⟩ := trodVars_none hV
  have hsz2 : (DataW.weightsEach Tryd.prog [23, 23, 24, 24] ds).all (· ≤ reachBytes) = true := by
    have h2 : (DataW.weightsEach Tryd.prog [23, 23, 24, 24] (ds ++ [])).all (· ≤ reachBytes) = true := hsz
    rwa [List.append_nil] at h2
  have hA2 : DataW.TrodAll enc Tryd.prog W 0 (fun _ => true) true [23, 23, 24, 24] args.toList ds p := hA
  have hO : OpensA enc Tryd.prog W [23, 23, 24, 24] _ := (opensA_agg Tryd.underlying23 (opens_struct Tryd.underlying23 (by kernel_rfl) (opens_fs_cons (sz := 1) rfl (by kernel_rfl) (opens_int (k := .i64) (by kernel_rfl)) (opens_fs_cons (sz := 1) rfl (by kernel_rfl) (opens_int (k := .i64) (by kernel_rfl)) (opens_fs_cons (sz := 1) rfl (by kernel_rfl) (opens_int (k := .i64) (by kernel_rfl)) (opens_fs_cons (sz := 1) rfl (by kernel_rfl) (opens_int (k := .i64) (by kernel_rfl)) (opens_fs_cons (sz := 1) rfl (by kernel_rfl) (opens_int (k := .i64) (by kernel_rfl)) (opens_fs_cons (sz := 1) rfl (by kernel_rfl) (opens_int (k := .i64) (by kernel_rfl)) opens_fs_nil))))))) (opensA_agg Tryd.underlying23 (opens_struct Tryd.underlying23 (by kernel_rfl) (opens_fs_cons (sz := 1) rfl (by kernel_rfl) (opens_int (k := .i64) (by kernel_rfl)) (opens_fs_cons (sz := 1) rfl (by kernel_rfl) (opens_int (k := .i64) (by kernel_rfl)) (opens_fs_cons (sz := 1) rfl (by kernel_rfl) (opens_int (k := .i64) (by kernel_rfl)) (opens_fs_cons (sz := 1) rfl (by kernel_rfl) (opens_int (k := .i64) (by kernel_rfl)) (opens_fs_cons (sz := 1) rfl (by kernel_rfl) (opens_int (k := .i64) (by kernel_rfl)) (opens_fs_cons (sz := 1) rfl (by kernel_rfl) (opens_int (k := .i64) (by kernel_rfl)) opens_fs_nil))))))) (opensA_one (by kernel_rfl) (opens_int (k := .u16) (by kernel_rfl)) (opensA_one (by kernel_rfl) (opens_int (k := .u16) (by kernel_rfl)) opensA_nil))))
  obtain ⟨x, ws, hVR, hE⟩ := hO base args.toList ds p hA2 hsz2 (fun j t v h1 h2 => hval j t v (by simpa using h1) (by simpa using h2))
  have hA3 := hA2
  obtain ⟨v0, vs0, d0, ds0, p0, q0, hargs, rfl, rfl, h0, r0⟩ := trodAll_cons hA2
  obtain ⟨v1, vs1, d1, ds1, p1, q1, rfl, rfl, rfl, h1, r1⟩ := trodAll_cons r0
  obtain ⟨v2, vs2, d2, ds2, p2, q2, rfl, rfl, rfl, h2, r2⟩ := trodAll_cons r1
  obtain ⟨v3, vs3, d3, ds3, p3, q3, rfl, rfl, rfl, h3, r3⟩ := trodAll_cons r2
  obtain ⟨rfl, rfl, rfl⟩ := trodAll_nil r3
  have hcall : ∃ d, AC Tryd.prog W d 4 ws [] (fun v _ => v = .bool true) := by
    obtain ⟨cs, w1, rfl, h1, cs2, w4, rfl, h4, u2, w2, rfl, ⟨e2, k2⟩, u3, w3, rfl, ⟨e3, k3⟩, hn⟩ := hE
    cases e2; cases e3; cases hn
    obtain ⟨t, o1, o2⟩ := stamp_rv h1
    obtain ⟨t4, p1, p2⟩ := stamp_rv h4
    obtain ⟨a, a1, a2⟩ := u16_rv k2
    obtain ⟨b, b1, b2⟩ := u16_rv k3
    rw [a2, b2]
    exact ⟨5, law_v (gok hL rfl) (orders_v (n := 0) a1 b1 fun _ => rfl) (RVs.cons o2 (RVs.cons p2 (RVs.cons (.sc rfl) (RVs.cons (.sc rfl) RVs.nil))))⟩
  obtain ⟨d, hcall⟩ := hcall
  clear hA0 hval0 hsz0 hsz
  refine (law_calls hcall hVR).mono fun e W' ⟨he, bel⟩ => ?_
  subst he
  exact ⟨_, rfl, _, _, _, [], _, [], hW', trodAll_mk1 (shut_bool Tryd.underlying4 _), trodAll_below laidOut bel (by kernel_rfl) hA3, rfl, bel.frame _, fun h => by cases h⟩
theorem over : Rows.stampOrdersRow.holds Tryd.pinned (OpenSpec.ofChange Rows.stampOrdersSpec) :=
  OpenClaim.holds_of_wide 4 Tryd.f4 rfl rfl rfl rfl rfl rfl rfl ⟨rfl, rfl, rfl, rfl, rfl⟩ rfl rfl rfl rfl rfl (by kernel_rfl) Tryd.func4 (by kernel_rfl)
    (of_decide_eq_true (by kernel_rfl)) (by unfold Func.isWrapper; first | (rw [if_pos (by decide +kernel)]; kernel_rfl) | (rw [if_neg (by decide +kernel)]; exact ⟨rfl, rfl⟩))
    (fun os started H enc _ => lifted os started H enc)
theorem proved : Rows.StampOrdersCardSaid :=
  Claim7.holds_tied_plain_at .later [] [.data] true (true, "bfc024863c9ced17e610d12c2d8a728fa661deaf1edff3ae76cbd6169c619037") false
    over (fun _ h => by cases h) (by kernel_rfl) (fun _ h => by cases h) stampOrders_row_tie rfl ⟨rfl, rfl⟩ (by kernel_rfl) rfl
    (fun f fn hf hfn => by
      obtain rfl : f = 4 := Option.some.inj ((show Tryd.prog.funcNamed "footlocker/footlockerlaw17.StampOrders" = some 4 by kernel_rfl).symm.trans hf) |>.symm
      obtain rfl : fn = Tryd.f4 := (Option.some.inj (Tryd.func4.symm.trans hfn)).symm
      exact ⟨by kernel_rfl, fun j t ht => by
        rw [Tryd.params4] at ht
        have hm : t ∈ [23, 23, 24, 24] := by simpa using Array.mem_of_getElem? ht
        have hall : ([23, 23, 24, 24].all fun u => !Tryd.prog.wantsStandIn u) = true := by kernel_rfl
        exact (show Tryd.prog.wantsStandIn t = false by simpa using List.all_eq_true.1 hall t hm)⟩)
    (by kernel_rfl)
#print axioms proved
end Go.Proofs.YtcmlfpfbbopclaaDoor.stampOrders
namespace Go.Proofs.YtcmlfpfbbopclaaDoor
/-- The row, under a short name, for the claim. -/
theorem stampOrders_holds : Rows.StampOrdersCardSaid := stampOrders.proved
end Go.Proofs.YtcmlfpfbbopclaaDoor
