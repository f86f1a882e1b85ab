-- Laid by lawrow.py: the row of the law TailWrites, out of the abstract machine's word. Not trusted: Lean checks it.
import Derived.Test.YtcdjaihaalaepaaRows
import Derived.Test.YtcdjaihaalaepaaAbGlue
import Derived.Test.YtcdjaihaalaepaaAbLittleM
import Derived.Test.YtcdjaihaalaepaaAbVLittle
import Derived.Test.YtcdjaihaalaepaaAbVSame
import Derived.Test.YtcdjaihaalaepaaAbVRef07
import Derived.Test.YtcdjaihaalaepaaAbVTail
import Derived.Test.YtcdjaihaalaepaaAbVTailR
import Derived.Test.YtcdjaihaalaepaaAbVTailP
import Derived.Test.YtcdjaihaalaepaaAbVTailQ
import Derived.Test.YtcdjaihaalaepaaAbVParse
import Derived.Test.YtcdjaihaalaepaaAbVLaw
import Derived.Test.YtcdjaihaalaepaaAbVTailM
import Derived.Test.YtcdjaihaalaepaaAbVLawB
import Derived.Test.YtcdjaihaalaepaaAbVRow
import Derived.WalkKit
import Derived.ProofKit
import Derived.OpenShut
import Derived.ShutString
import Derived.ChangeOld
import Derived.Below
import Derived.SizedLaws
import Derived.KernelRfl
set_option linter.unusedVariables false
namespace Go.Proofs.Ytcdjaihaalaepaa.tailWrites
open Go.ChangeShapes Go.WideShapes Go.ChangeAt Go.RowKit Go.Proofs.AbM Go.Proofs.Ytcdjaihaalaepaa.LittleM Go.Proofs.Ytcdjaihaalaepaa.VLittle Go.Proofs.Ytcdjaihaalaepaa.VSame Go.Proofs.Ytcdjaihaalaepaa.VRef07 Go.Proofs.Ytcdjaihaalaepaa.VTail Go.Proofs.Ytcdjaihaalaepaa.VTailR Go.Proofs.Ytcdjaihaalaepaa.VTailP Go.Proofs.Ytcdjaihaalaepaa.VTailQ Go.Proofs.Ytcdjaihaalaepaa.VParse Go.Proofs.Ytcdjaihaalaepaa.VLaw Go.Proofs.Ytcdjaihaalaepaa.VTailM Go.Proofs.Ytcdjaihaalaepaa.VLawB Go.Proofs.Ytcdjaihaalaepaa.VRow
theorem own : ownKnob Try.prog.godebug = none := by kernel_rfl
theorem laidOut : laidOutB Try.prog = true := by kernel_rfl
set_option maxRecDepth 100000 in
theorem lifted (os : Os) (started : os.Started) (H : Type) (enc : TypeId × Value → H) :
    ReturnsInHanded {} Try.checked os 3 .any (Rows.tailWritesSpec.pre6 enc Try.prog Try.f3 Rows.tailWritesRow.domain false) (Rows.tailWritesSpec.post enc Try.prog Try.f3 false true false false) := by
  refine returnsInHanded_of_change_sized (C := Try.checked) own started (by kernel_rfl) Try.func3
    (ChangeSpec.witness6 (enc := enc) (C := Try.checked) false ⟨#[], #[.agg #[.int .u32 0, .int .u32 0, .int .u64 0, .int .u64 0, .int .u64 0, .int .u64 0, .int .u32 0, .int .u32 0, .int .u64 0]], []⟩ 8 (by kernel_rfl) (by kernel_rfl) (by kernel_rfl) (by kernel_rfl)) ?_
  intro W base args ds gs before hval0 hW hcnd hsz0 _
  have hsz : (DataW.weightsEach Try.prog (Try.f3.params.toList ++ Rows.tailWritesSpec.plain.varTypes Try.prog) (ds ++ gs)).all (· ≤ reachBytes) = true := hsz0
  have hval : ∀ (j : Nat) t v, Try.f3.params[j]? = some t → args[j]? = some v → Value.okWide Try.prog W .any base t v := hval0
  have hW' := hW
  obtain ⟨p, q, hA0, hV, rfl, hfz, hnd⟩ := hW
  have hA : DataW.TrodAll enc Try.prog W 0 (fun _ => true) true Try.f3.params.toList args.toList ds p := hA0
  rw [Try.params3] at hA hval hsz
  obtain ⟨rfl, rfl⟩ := trodVars_none hV
  have hsz2 : (DataW.weightsEach Try.prog [25] ds).all (· ≤ reachBytes) = true := by
    have h2 : (DataW.weightsEach Try.prog [25] (ds ++ [])).all (· ≤ reachBytes) = true := hsz
    rwa [List.append_nil] at h2
  have hA2 : DataW.TrodAll enc Try.prog W 0 (fun _ => true) true [25] args.toList ds p := hA
  have hO : OpensA enc Try.prog W [25] _ := (opensA_agg Try.underlying25 (opens_struct Try.underlying25 (by kernel_rfl) (opens_fs_cons (sz := 1) rfl (by kernel_rfl) (opens_int (k := .u32) (by kernel_rfl)) (opens_fs_cons (sz := 1) rfl (by kernel_rfl) (opens_int (k := .u32) (by kernel_rfl)) (opens_fs_cons (sz := 1) rfl (by kernel_rfl) (opens_int (k := .u64) (by kernel_rfl)) (opens_fs_cons (sz := 1) rfl (by kernel_rfl) (opens_int (k := .u64) (by kernel_rfl)) (opens_fs_cons (sz := 1) rfl (by kernel_rfl) (opens_int (k := .u64) (by kernel_rfl)) (opens_fs_cons (sz := 1) rfl (by kernel_rfl) (opens_int (k := .u64) (by kernel_rfl)) (opens_fs_cons (sz := 1) rfl (by kernel_rfl) (opens_int (k := .u32) (by kernel_rfl)) (opens_fs_cons (sz := 1) rfl (by kernel_rfl) (opens_int (k := .u32) (by kernel_rfl)) (opens_fs_cons (sz := 1) rfl (by kernel_rfl) (opens_int (k := .u64) (by kernel_rfl)) opens_fs_nil)))))))))) opensA_nil)
  obtain ⟨x, ws, hVR, hE⟩ := hO base args.toList ds p hA2 hsz2 (fun j t v h1 h2 => hval j t v (by simpa using h1) (by simpa using h2))
  have hA3 := hA2
  obtain ⟨v0, vs0, d0, ds0, p0, q0, hargs, rfl, rfl, h0, r0⟩ := trodAll_cons hA2
  obtain ⟨rfl, rfl, rfl⟩ := trodAll_nil r0
  have hcall : ∃ d, AC Try.prog W d 3 ws [] (fun v _ => v = .bool true) := by
    obtain ⟨cs, w1, rfl, h1, hn⟩ := hE
    cases hn
    obtain ⟨t, e1, e2⟩ := tail_rv h1
    exact ⟨8, law_v gok_none (writes_v (n := 0) e1 fun _ => rfl) (RVs.cons e2 RVs.nil)⟩
  obtain ⟨d, hcall⟩ := hcall
  clear hA0 hval0 hsz0 hsz
  refine (law_calls hcall hVR).mono fun e W' ⟨he, bel⟩ => ?_
  subst he
  exact ⟨_, rfl, _, _, _, [], _, [], hW', trodAll_mk1 (shut_bool Try.underlying4 _), trodAll_below laidOut bel (by kernel_rfl) hA3, rfl, bel.frame _, fun h => by cases h⟩
theorem over : Rows.tailWritesRow.holds Try.pinned (OpenSpec.ofChange Rows.tailWritesSpec) :=
  OpenClaim.holds_of_wide 3 Try.f3 rfl rfl rfl rfl rfl rfl rfl ⟨rfl, rfl, rfl, rfl, rfl⟩ rfl rfl rfl rfl rfl (by kernel_rfl) Try.func3 (by kernel_rfl)
    (of_decide_eq_true (by kernel_rfl)) (by unfold Func.isWrapper; first | (rw [if_pos (by decide +kernel)]; kernel_rfl) | (rw [if_neg (by decide +kernel)]; exact ⟨rfl, rfl⟩))
    (fun os started H enc _ => lifted os started H enc)
theorem proved : Rows.TailWritesSaid := over
#print axioms proved
end Go.Proofs.Ytcdjaihaalaepaa.tailWrites
namespace Go.Proofs.Ytcdjaihaalaepaa
/-- The row, under a short name, for the claim. -/
theorem tailWrites_holds : Rows.TailWritesSaid := tailWrites.proved
end Go.Proofs.Ytcdjaihaalaepaa
