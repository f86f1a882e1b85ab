-- Laid by lawrow.py: the row of the law TailTurns, out of the abstract machine's word. Not trusted: Lean checks it.
import Derived.Test.YtcdjaihaalaepaaRows
import Derived.Test.YtcdjaihaalaepaaAbGlue
import Derived.Test.YtcdjaihaalaepaaAbLittleM
import Derived.Test.YtcdjaihaalaepaaAbVLittle
import Derived.Test.YtcdjaihaalaepaaAbVSame
import Derived.Test.YtcdjaihaalaepaaAbVRef07
import Derived.Test.YtcdjaihaalaepaaAbVTail
import Derived.Test.YtcdjaihaalaepaaAbVTailR
import Derived.Test.YtcdjaihaalaepaaAbVTailP
import Derived.Test.YtcdjaihaalaepaaAbVTailQ
import Derived.Test.YtcdjaihaalaepaaAbVParse
import Derived.Test.YtcdjaihaalaepaaAbVLaw
import Derived.Test.YtcdjaihaalaepaaAbVTailM
import Derived.Test.YtcdjaihaalaepaaAbVLawB
import Derived.Test.YtcdjaihaalaepaaAbVTurn
import Derived.Test.YtcdjaihaalaepaaAbVRow
import Derived.WalkKit
import Derived.ProofKit
import Derived.OpenShut
import Derived.ShutString
import Derived.ChangeOld
import Derived.Below
import Derived.SizedLaws
import Derived.KernelRfl
set_option linter.unusedVariables false
namespace Go.Proofs.Ytcdjaihaalaepaa.tailTurns
open Go.ChangeShapes Go.WideShapes Go.ChangeAt Go.RowKit Go.Proofs.AbM Go.Proofs.Ytcdjaihaalaepaa.LittleM Go.Proofs.Ytcdjaihaalaepaa.VLittle Go.Proofs.Ytcdjaihaalaepaa.VSame Go.Proofs.Ytcdjaihaalaepaa.VRef07 Go.Proofs.Ytcdjaihaalaepaa.VTail Go.Proofs.Ytcdjaihaalaepaa.VTailR Go.Proofs.Ytcdjaihaalaepaa.VTailP Go.Proofs.Ytcdjaihaalaepaa.VTailQ Go.Proofs.Ytcdjaihaalaepaa.VParse Go.Proofs.Ytcdjaihaalaepaa.VLaw Go.Proofs.Ytcdjaihaalaepaa.VTailM Go.Proofs.Ytcdjaihaalaepaa.VLawB Go.Proofs.Ytcdjaihaalaepaa.VTurn Go.Proofs.Ytcdjaihaalaepaa.VRow
theorem own : ownKnob Try.prog.godebug = none := by kernel_rfl
theorem laidOut : laidOutB Try.prog = true := by kernel_rfl
set_option maxRecDepth 100000 in
theorem lifted (os : Os) (started : os.Started) (H : Type) (enc : TypeId × Value → H) :
    ReturnsInHanded {} Try.checked os 7 .any (Rows.tailTurnsSpec.pre6 enc Try.prog Try.f7 Rows.tailTurnsRow.domain false) (Rows.tailTurnsSpec.post enc Try.prog Try.f7 false true false false) := by
  refine returnsInHanded_of_change_sized (C := Try.checked) own started (by kernel_rfl) Try.func7
    (ChangeSpec.witness6 (enc := enc) (C := Try.checked) false ⟨#[], #[.agg #[.int .u32 0, .int .u32 0, .int .u64 0, .int .u64 0, .int .u64 0, .int .u64 0, .int .u32 0, .int .u32 0, .int .u64 0], .int .i64 0, .int .u8 0, .agg #[.int .u32 0, .int .u32 0, .int .u64 0, .int .u64 0, .int .u64 0, .int .u64 0, .int .u32 0, .int .u32 0, .int .u64 0]], []⟩ 8 (by kernel_rfl) (by kernel_rfl) (by kernel_rfl) (by kernel_rfl)) ?_
  intro W base args ds gs before hval0 hW hcnd hsz0 _
  have hsz : (DataW.weightsEach Try.prog (Try.f7.params.toList ++ Rows.tailTurnsSpec.plain.varTypes Try.prog) (ds ++ gs)).all (· ≤ reachBytes) = true := hsz0
  have hval : ∀ (j : Nat) t v, Try.f7.params[j]? = some t → args[j]? = some v → Value.okWide Try.prog W .any base t v := hval0
  have hW' := hW
  obtain ⟨p, q, hA0, hV, rfl, hfz, hnd⟩ := hW
  have hA : DataW.TrodAll enc Try.prog W 0 (fun _ => true) true Try.f7.params.toList args.toList ds p := hA0
  rw [Try.params7] at hA hval hsz
  obtain ⟨rfl, rfl⟩ := trodVars_none hV
  have hsz2 : (DataW.weightsEach Try.prog [25, 3, 5, 25] ds).all (· ≤ reachBytes) = true := by
    have h2 : (DataW.weightsEach Try.prog [25, 3, 5, 25] (ds ++ [])).all (· ≤ reachBytes) = true := hsz
    rwa [List.append_nil] at h2
  have hA2 : DataW.TrodAll enc Try.prog W 0 (fun _ => true) true [25, 3, 5, 25] args.toList ds p := hA
  have hO : OpensA enc Try.prog W [25, 3, 5, 25] _ := (opensA_agg Try.underlying25 (opens_struct Try.underlying25 (by kernel_rfl) (opens_fs_cons (sz := 1) rfl (by kernel_rfl) (opens_int (k := .u32) (by kernel_rfl)) (opens_fs_cons (sz := 1) rfl (by kernel_rfl) (opens_int (k := .u32) (by kernel_rfl)) (opens_fs_cons (sz := 1) rfl (by kernel_rfl) (opens_int (k := .u64) (by kernel_rfl)) (opens_fs_cons (sz := 1) rfl (by kernel_rfl) (opens_int (k := .u64) (by kernel_rfl)) (opens_fs_cons (sz := 1) rfl (by kernel_rfl) (opens_int (k := .u64) (by kernel_rfl)) (opens_fs_cons (sz := 1) rfl (by kernel_rfl) (opens_int (k := .u64) (by kernel_rfl)) (opens_fs_cons (sz := 1) rfl (by kernel_rfl) (opens_int (k := .u32) (by kernel_rfl)) (opens_fs_cons (sz := 1) rfl (by kernel_rfl) (opens_int (k := .u32) (by kernel_rfl)) (opens_fs_cons (sz := 1) rfl (by kernel_rfl) (opens_int (k := .u64) (by kernel_rfl)) opens_fs_nil)))))))))) (opensA_one (by kernel_rfl) (opens_int (k := .i64) (by kernel_rfl)) (opensA_one (by kernel_rfl) (opens_int (k := .u8) (by kernel_rfl)) (opensA_agg Try.underlying25 (opens_struct Try.underlying25 (by kernel_rfl) (opens_fs_cons (sz := 1) rfl (by kernel_rfl) (opens_int (k := .u32) (by kernel_rfl)) (opens_fs_cons (sz := 1) rfl (by kernel_rfl) (opens_int (k := .u32) (by kernel_rfl)) (opens_fs_cons (sz := 1) rfl (by kernel_rfl) (opens_int (k := .u64) (by kernel_rfl)) (opens_fs_cons (sz := 1) rfl (by kernel_rfl) (opens_int (k := .u64) (by kernel_rfl)) (opens_fs_cons (sz := 1) rfl (by kernel_rfl) (opens_int (k := .u64) (by kernel_rfl)) (opens_fs_cons (sz := 1) rfl (by kernel_rfl) (opens_int (k := .u64) (by kernel_rfl)) (opens_fs_cons (sz := 1) rfl (by kernel_rfl) (opens_int (k := .u32) (by kernel_rfl)) (opens_fs_cons (sz := 1) rfl (by kernel_rfl) (opens_int (k := .u32) (by kernel_rfl)) (opens_fs_cons (sz := 1) rfl (by kernel_rfl) (opens_int (k := .u64) (by kernel_rfl)) opens_fs_nil)))))))))) opensA_nil))))
  obtain ⟨x, ws, hVR, hE⟩ := hO base args.toList ds p hA2 hsz2 (fun j t v h1 h2 => hval j t v (by simpa using h1) (by simpa using h2))
  have hA3 := hA2
  obtain ⟨v0, vs0, d0, ds0, p0, q0, hargs, rfl, rfl, h0, r0⟩ := trodAll_cons hA2
  obtain ⟨v1, vs1, d1, ds1, p1, q1, rfl, rfl, rfl, h1, r1⟩ := trodAll_cons r0
  obtain ⟨v2, vs2, d2, ds2, p2, q2, rfl, rfl, rfl, h2, r2⟩ := trodAll_cons r1
  obtain ⟨v3, vs3, d3, ds3, p3, q3, rfl, rfl, rfl, h3, r3⟩ := trodAll_cons r2
  obtain ⟨rfl, rfl, rfl⟩ := trodAll_nil r3
  have hcall : ∃ d, AC Try.prog W d 7 ws [] (fun v _ => v = .bool true) := by
    obtain ⟨cs, w1, rfl, h1, u2, w2, rfl, ⟨e2, k2⟩, u3, w3, rfl, ⟨e3, k3⟩, cs4, w4, rfl, h4, hn⟩ := hE
    cases e2; cases e3; cases hn
    obtain ⟨t, o1, o2⟩ := tail_rv h1
    obtain ⟨u, p1, p2⟩ := tail_rv h4
    have hc := wf_u8 k3
    obtain ⟨c, c1, c2⟩ : ∃ c : Nat, c < 256 ∧ _ = (c : Int) := ⟨Int.toNat _, by omega, (Int.toNat_of_nonneg hc.1).symm⟩
    rw [c2]
    exact ⟨8, law_v gok_none (turns_v (n := 0) o1 p1 c1 fun _ => rfl) (RVs.cons o2 (RVs.cons (.sc rfl) (RVs.cons (.sc rfl) (RVs.cons p2 RVs.nil))))⟩
  obtain ⟨d, hcall⟩ := hcall
  clear hA0 hval0 hsz0 hsz
  refine (law_calls hcall hVR).mono fun e W' ⟨he, bel⟩ => ?_
  subst he
  exact ⟨_, rfl, _, _, _, [], _, [], hW', trodAll_mk1 (shut_bool Try.underlying4 _), trodAll_below laidOut bel (by kernel_rfl) hA3, rfl, bel.frame _, fun h => by cases h⟩
theorem over : Rows.tailTurnsRow.holds Try.pinned (OpenSpec.ofChange Rows.tailTurnsSpec) :=
  OpenClaim.holds_of_wide 7 Try.f7 rfl rfl rfl rfl rfl rfl rfl ⟨rfl, rfl, rfl, rfl, rfl⟩ rfl rfl rfl rfl rfl (by kernel_rfl) Try.func7 (by kernel_rfl)
    (of_decide_eq_true (by kernel_rfl)) (by unfold Func.isWrapper; first | (rw [if_pos (by decide +kernel)]; kernel_rfl) | (rw [if_neg (by decide +kernel)]; exact ⟨rfl, rfl⟩))
    (fun os started H enc _ => lifted os started H enc)
theorem proved : Rows.TailTurnsSaid := over
#print axioms proved
end Go.Proofs.Ytcdjaihaalaepaa.tailTurns
namespace Go.Proofs.Ytcdjaihaalaepaa
/-- The row, under a short name, for the claim. -/
theorem tailTurns_holds : Rows.TailTurnsSaid := tailTurns.proved
end Go.Proofs.Ytcdjaihaalaepaa
