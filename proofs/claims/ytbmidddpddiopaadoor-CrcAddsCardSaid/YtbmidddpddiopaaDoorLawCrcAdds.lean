-- Laid by lawrow.py: the row of the law CrcAdds, out of the abstract machine's word. Not trusted: Lean checks it.
import Derived.Test.YtbmidddpddiopaaDoorRows
import Derived.Test.YtbmidddpddiopaaDoorTie
import Derived.Test.YtbmidddpddiopaaDoorCards
import Derived.LaidMore
import Derived.SevenTiedAt
import Derived.Stop.Joined
import Derived.Test.YtbmidddpddiopaaDoorAbGlue
import Derived.Test.YtbmidddpddiopaaDoorAbVCrcP
import Derived.Test.YtbmidddpddiopaaDoorAbVG
import Derived.Test.YtbmidddpddiopaaDoorAbVLawD
import Derived.Test.YtbmidddpddiopaaDoorAbVRow
import Derived.WalkKit
import Derived.ProofKit
import Derived.OpenShut
import Derived.ShutString
import Derived.ChangeOld
import Derived.Below
import Derived.SizedLaws
import Derived.KernelRfl
set_option linter.unusedVariables false
namespace Go.Proofs.YtbmidddpddiopaaDoor.crcAdds
open Go.ChangeShapes Go.WideShapes Go.ChangeAt Go.RowKit Go.Proofs.AbM Go.Proofs.YtbmidddpddiopaaDoor.VCrcP Go.Proofs.YtbmidddpddiopaaDoor.VG Go.Proofs.YtbmidddpddiopaaDoor.VLawD Go.Proofs.YtbmidddpddiopaaDoor.VRow
theorem own : ownKnob Tryd.prog.godebug = none := by kernel_rfl
theorem laidOut : laidOutB Tryd.prog = true := by kernel_rfl
def laid2 : List (String × DataW Unit) := [("footlocker/crc.nibbles", Rows.laid_footlocker_crc_nibbles)]
set_option maxRecDepth 100000 in
theorem door_met (os : Os) (args : Array Value) : laidMetH Tryd.prog laid2 ((World.doorLaid Tryd.prog 14 os).forCall (fun _ _ => 0) ⟨#[], args, []⟩).memory :=
  laidMetH_of_parts3 (fuel := 8) (laidMet_of_run' 8 (by kernel_rfl) (by kernel_rfl)) (by kernel_rfl) (by kernel_rfl)
set_option maxRecDepth 100000 in
theorem lifted (os : Os) (started : os.Started) (H : Type) (enc : TypeId × Value → H) :
    ReturnsInHanded {} Tryd.checked os 6 .any (fun w args => (Rows.crcAddsSpec.pre enc Tryd.prog Tryd.f6 [] false w args ∧ laidMetH Tryd.prog laid2 w) ∧ sizedMet enc Tryd.prog Tryd.f6 (OpenSpec.ofChange Rows.crcAddsSpec) false w args) (Rows.crcAddsSpec.post enc Tryd.prog Tryd.f6 false true false false) := by
  refine returnsInHanded_of_change_and (C := Tryd.checked) (X := fun w _ => laidMetH Tryd.prog laid2 w) (fun _ _ _ hh h => h.of_heap hh) own started (by kernel_rfl) Tryd.func6
    (ChangeSpec.witness_shaped (enc := enc) (C := Tryd.checked) (os := os) (X := fun w _ => laidMetH Tryd.prog laid2 w) false (World.doorLaid Tryd.prog 14 os) #[.slice none 0 0, .slice none 0 0] 8 rfl (World.shaped_of_RefB (by kernel_rfl) (by kernel_rfl)) (by kernel_rfl) (by kernel_rfl) (by kernel_rfl) (door_met os _)) ?_
  intro W base args ds gs before hval0 hW hcnd hsz0 hL _
  have hsz : (DataW.weightsEach Tryd.prog (Tryd.f6.params.toList ++ Rows.crcAddsSpec.plain.varTypes Tryd.prog) (ds ++ gs)).all (· ≤ reachBytes) = true := hsz0
  have hval : ∀ (j : Nat) t v, Tryd.f6.params[j]? = some t → args[j]? = some v → Value.okWide Tryd.prog W .any base t v := hval0
  have hW' := hW
  obtain ⟨p, q, hA0, hV, rfl, hfz, hnd⟩ := hW
  have hA : DataW.TrodAll enc Tryd.prog W 0 (fun _ => true) true Tryd.f6.params.toList args.toList ds p := hA0
  rw [Tryd.params6] at hA hval hsz
  obtain ⟨rfl, rfl⟩ := trodVars_none hV
  have hsz2 : (DataW.weightsEach Tryd.prog [23, 23] ds).all (· ≤ reachBytes) = true := by
    have h2 : (DataW.weightsEach Tryd.prog [23, 23] (ds ++ [])).all (· ≤ reachBytes) = true := hsz
    rwa [List.append_nil] at h2
  have hA2 : DataW.TrodAll enc Tryd.prog W 0 (fun _ => true) true [23, 23] args.toList ds p := hA
  have hO : OpensA enc Tryd.prog W [23, 23] _ := (opensA_one (by kernel_rfl) (opens_slice (e := 5) (sz := 1) (by_ := 1) (by kernel_rfl) (by kernel_rfl) (by decide) (by kernel_rfl) (opens_int (k := .u8) (by kernel_rfl))) (opensA_one (by kernel_rfl) (opens_slice (e := 5) (sz := 1) (by_ := 1) (by kernel_rfl) (by kernel_rfl) (by decide) (by kernel_rfl) (opens_int (k := .u8) (by kernel_rfl))) opensA_nil))
  obtain ⟨x, ws, hVR, hE⟩ := hO base args.toList ds p hA2 hsz2 (fun j t v h1 h2 => hval j t v (by simpa using h1) (by simpa using h2))
  have hA3 := hA2
  obtain ⟨v0, vs0, d0, ds0, p0, q0, hargs, rfl, rfl, h0, r0⟩ := trodAll_cons hA2
  obtain ⟨v1, vs1, d1, ds1, p1, q1, rfl, rfl, rfl, h1, r1⟩ := trodAll_cons r0
  obtain ⟨rfl, rfl, rfl⟩ := trodAll_nil r1
  have hcall : ∃ d, AC Tryd.prog W d 6 ws [] (fun v _ => v = .bool true) := by
    obtain ⟨w0, t0, rfl, ⟨b0, hb0, hs0, hl0⟩, w1, t1, rfl, ⟨b1, hb1, hs1, hl1⟩, hn⟩ := hE
    cases hb0; cases hb1; cases hn
    obtain ⟨nl, ys, q1, q2, q3⟩ := u8s_rv (hs0 [])
    obtain ⟨nl2, zs, p1, p2, p3⟩ := u8s_rv (hs1 [])
    exact ⟨8, law_v (gok hL rfl) (adds_v (n := 0) rfl rfl q2 p2 (by rw [q1]; omega) (by rw [p1]; omega) fun _ => rfl) (RVs.cons q3 (RVs.cons p3 RVs.nil))⟩
  obtain ⟨d, hcall⟩ := hcall
  clear hA0 hval0 hsz0 hsz
  refine (law_calls hcall hVR).mono fun e W' ⟨he, bel⟩ => ?_
  subst he
  exact ⟨_, rfl, _, _, _, [], _, [], hW', trodAll_mk1 (shut_bool Tryd.underlying4 _), trodAll_below laidOut bel (by kernel_rfl) hA3, rfl, bel.frame _, fun h => by cases h⟩
theorem over : Rows.crcAddsRow.holds Tryd.pinned (OpenSpec.ofChange Rows.crcAddsSpec) :=
  OpenClaim.holds_of_wide 6 Tryd.f6 rfl rfl rfl rfl rfl rfl rfl ⟨rfl, rfl, rfl, rfl, rfl⟩ rfl rfl rfl rfl rfl (by kernel_rfl) Tryd.func6 (by kernel_rfl)
    (of_decide_eq_true (by kernel_rfl)) (by unfold Func.isWrapper; first | (rw [if_pos (by decide +kernel)]; kernel_rfl) | (rw [if_neg (by decide +kernel)]; exact ⟨rfl, rfl⟩))
    (fun os started H enc _ => lifted os started H enc)
theorem proved : Rows.CrcAddsCardSaid :=
  Claim7.holds_tied_plain_at .later [] [.data] true (true, "f7a0e16851d5cbb11d1c428a5018c507d17151a722b356a6e6e13bc03f631255") false
    over (fun _ h => by cases h) (by kernel_rfl) (fun _ h => by cases h) crcAdds_row_tie rfl ⟨rfl, rfl⟩ (by kernel_rfl) rfl
    (fun f fn hf hfn => by
      obtain rfl : f = 6 := Option.some.inj ((show Tryd.prog.funcNamed "footlocker/footlockerlaw06.CrcAdds" = some 6 by kernel_rfl).symm.trans hf) |>.symm
      obtain rfl : fn = Tryd.f6 := (Option.some.inj (Tryd.func6.symm.trans hfn)).symm
      exact ⟨by kernel_rfl, fun j t ht => by
        rw [Tryd.params6] at ht
        have hm : t ∈ [23, 23] := by simpa using Array.mem_of_getElem? ht
        have hall : ([23, 23].all fun u => !Tryd.prog.wantsStandIn u) = true := by kernel_rfl
        exact (show Tryd.prog.wantsStandIn t = false by simpa using List.all_eq_true.1 hall t hm)⟩)
    (by kernel_rfl)
#print axioms proved
end Go.Proofs.YtbmidddpddiopaaDoor.crcAdds
namespace Go.Proofs.YtbmidddpddiopaaDoor
/-- The row, under a short name, for the claim. -/
theorem crcAdds_holds : Rows.CrcAddsCardSaid := crcAdds.proved
end Go.Proofs.YtbmidddpddiopaaDoor
