-- Laid by lawrow.py: the row of the law CanonReads, out of the abstract machine's word. Not trusted: Lean checks it.
import Derived.Test.YtncicgfbnjneeaaRows
import Derived.Test.YtncicgfbnjneeaaAbGlue
import Derived.Test.YtncicgfbnjneeaaAbBitsM
import Derived.Test.YtncicgfbnjneeaaAbVBits
import Derived.Test.YtncicgfbnjneeaaAbVBitsT
import Derived.Test.YtncicgfbnjneeaaAbVLen
import Derived.Test.YtncicgfbnjneeaaAbVCheck
import Derived.Test.YtncicgfbnjneeaaAbVCodes
import Derived.Test.YtncicgfbnjneeaaAbVRCodes
import Derived.Test.YtncicgfbnjneeaaAbVNew
import Derived.Test.YtncicgfbnjneeaaAbVNewB
import Derived.Test.YtncicgfbnjneeaaAbVTab
import Derived.Test.YtncicgfbnjneeaaAbVRead
import Derived.Test.YtncicgfbnjneeaaAbVLaw
import Derived.Test.YtncicgfbnjneeaaAbVLawC
import Derived.Test.YtncicgfbnjneeaaAbVOrders
import Derived.Test.YtncicgfbnjneeaaAbVSums
import Derived.Test.YtncicgfbnjneeaaAbVBackP
import Derived.Test.YtncicgfbnjneeaaAbVBitsR
import Derived.Test.YtncicgfbnjneeaaAbVReadsP
import Derived.Test.YtncicgfbnjneeaaAbVRRead
import Derived.Test.YtncicgfbnjneeaaAbVReads
import Derived.WalkKit
import Derived.ProofKit
import Derived.OpenShut
import Derived.ShutString
import Derived.ChangeOld
import Derived.Below
import Derived.SizedLaws
import Derived.KernelRfl
set_option linter.unusedVariables false
namespace Go.Proofs.Ytncicgfbnjneeaa.canonReads
open Go.ChangeShapes Go.WideShapes Go.ChangeAt Go.RowKit Go.Proofs.AbM Go.Proofs.Ytncicgfbnjneeaa.BitsM Go.Proofs.Ytncicgfbnjneeaa.VBits Go.Proofs.Ytncicgfbnjneeaa.VBitsT Go.Proofs.Ytncicgfbnjneeaa.VLen Go.Proofs.Ytncicgfbnjneeaa.VCheck Go.Proofs.Ytncicgfbnjneeaa.VCodes Go.Proofs.Ytncicgfbnjneeaa.VRCodes Go.Proofs.Ytncicgfbnjneeaa.VNew Go.Proofs.Ytncicgfbnjneeaa.VNewB Go.Proofs.Ytncicgfbnjneeaa.VTab Go.Proofs.Ytncicgfbnjneeaa.VRead Go.Proofs.Ytncicgfbnjneeaa.VLaw Go.Proofs.Ytncicgfbnjneeaa.VLawC Go.Proofs.Ytncicgfbnjneeaa.VOrders Go.Proofs.Ytncicgfbnjneeaa.VSums Go.Proofs.Ytncicgfbnjneeaa.VBackP Go.Proofs.Ytncicgfbnjneeaa.VBitsR Go.Proofs.Ytncicgfbnjneeaa.VReadsP Go.Proofs.Ytncicgfbnjneeaa.VRRead Go.Proofs.Ytncicgfbnjneeaa.VReads
theorem own : ownKnob Try.prog.godebug = none := by kernel_rfl
theorem laidOut : laidOutB Try.prog = true := by kernel_rfl
set_option maxRecDepth 100000 in
theorem lifted (os : Os) (started : os.Started) (H : Type) (enc : TypeId × Value → H) :
    ReturnsInHanded {} Try.checked os 5 .any (Rows.canonReadsSpec.pre6 enc Try.prog Try.f5 Rows.canonReadsRow.domain false) (Rows.canonReadsSpec.post enc Try.prog Try.f5 false true false false) := by
  refine returnsInHanded_of_change_sized (C := Try.checked) own started (by kernel_rfl) Try.func5
    (ChangeSpec.witness6 (enc := enc) (C := Try.checked) false ⟨#[], #[.slice none 0 0, .slice none 0 0], []⟩ 8 (by kernel_rfl) (by kernel_rfl) (by kernel_rfl) (by kernel_rfl)) ?_
  intro W base args ds gs before hval0 hW hcnd hsz0 _
  have hsz : (DataW.weightsEach Try.prog (Try.f5.params.toList ++ Rows.canonReadsSpec.plain.varTypes Try.prog) (ds ++ gs)).all (· ≤ reachBytes) = true := hsz0
  have hval : ∀ (j : Nat) t v, Try.f5.params[j]? = some t → args[j]? = some v → Value.okWide Try.prog W .any base t v := hval0
  have hW' := hW
  obtain ⟨p, q, hA0, hV, rfl, hfz, hnd⟩ := hW
  have hA : DataW.TrodAll enc Try.prog W 0 (fun _ => true) true Try.f5.params.toList args.toList ds p := hA0
  rw [Try.params5] at hA hval hsz
  obtain ⟨rfl, rfl⟩ := trodVars_none hV
  have hsz2 : (DataW.weightsEach Try.prog [22, 38] ds).all (· ≤ reachBytes) = true := by
    have h2 : (DataW.weightsEach Try.prog [22, 38] (ds ++ [])).all (· ≤ reachBytes) = true := hsz
    rwa [List.append_nil] at h2
  have hA2 : DataW.TrodAll enc Try.prog W 0 (fun _ => true) true [22, 38] args.toList ds p := hA
  have hO : OpensA enc Try.prog W [22, 38] _ := (opensA_one (by kernel_rfl) (opens_slice (e := 3) (sz := 1) (by_ := 8) (by kernel_rfl) (by kernel_rfl) (by decide) (by kernel_rfl) (opens_int (k := .i64) (by kernel_rfl))) (opensA_one (by kernel_rfl) (opens_slice (e := 5) (sz := 1) (by_ := 1) (by kernel_rfl) (by kernel_rfl) (by decide) (by kernel_rfl) (opens_int (k := .u8) (by kernel_rfl))) opensA_nil))
  obtain ⟨x, ws, hVR, hE⟩ := hO base args.toList ds p hA2 hsz2 (fun j t v h1 h2 => hval j t v (by simpa using h1) (by simpa using h2))
  have hA3 := hA2
  obtain ⟨v0, vs0, d0, ds0, p0, q0, hargs, rfl, rfl, h0, r0⟩ := trodAll_cons hA2
  obtain ⟨v1, vs1, d1, ds1, p1, q1, rfl, rfl, rfl, h1, r1⟩ := trodAll_cons r0
  obtain ⟨rfl, rfl, rfl⟩ := trodAll_nil r1
  have hcall : ∃ d, AC Try.prog W d 5 ws [] (fun v _ => v = .bool true) := by
    obtain ⟨w1, t1, rfl, ⟨b1, hb1, hs1, hl1⟩, w2, t2, rfl, ⟨b2, hb2, hs2, hl2⟩, hn⟩ := hE
    cases hb1; cases hb2; cases hn
    obtain ⟨nl, ys, q1, q2, q3, q4⟩ := ints_rv (hs1 [])
    obtain ⟨nl2, zs, p1, p2, p3, p4⟩ := nats_rv (hs2 []) (fun x hx => wf_u8 hx)
    exact ⟨8, law_v gok_none (reads_law (n := 0) rfl rfl q4 (by omega) (by rw [p1]; omega) (fun b hb => by have := p2 b hb; omega) fun _ => rfl) (RVs.cons q3 (RVs.cons p3 RVs.nil))⟩
  obtain ⟨d, hcall⟩ := hcall
  clear hA0 hval0 hsz0 hsz
  refine (law_calls hcall hVR).mono fun e W' ⟨he, bel⟩ => ?_
  subst he
  exact ⟨_, rfl, _, _, _, [], _, [], hW', trodAll_mk1 (shut_bool Try.underlying4 _), trodAll_below laidOut bel (by kernel_rfl) hA3, rfl, bel.frame _, fun h => by cases h⟩
theorem over : Rows.canonReadsRow.holds Try.pinned (OpenSpec.ofChange Rows.canonReadsSpec) :=
  OpenClaim.holds_of_wide 5 Try.f5 rfl rfl rfl rfl rfl rfl rfl ⟨rfl, rfl, rfl, rfl, rfl⟩ rfl rfl rfl rfl rfl (by kernel_rfl) Try.func5 (by kernel_rfl)
    (of_decide_eq_true (by kernel_rfl)) (by unfold Func.isWrapper; first | (rw [if_pos (by decide +kernel)]; kernel_rfl) | (rw [if_neg (by decide +kernel)]; exact ⟨rfl, rfl⟩))
    (fun os started H enc _ => lifted os started H enc)
theorem proved : Rows.CanonReadsSaid := over
#print axioms proved
end Go.Proofs.Ytncicgfbnjneeaa.canonReads
namespace Go.Proofs.Ytncicgfbnjneeaa
/-- The row, under a short name, for the claim. -/
theorem canonReads_holds : Rows.CanonReadsSaid := canonReads.proved
end Go.Proofs.Ytncicgfbnjneeaa
