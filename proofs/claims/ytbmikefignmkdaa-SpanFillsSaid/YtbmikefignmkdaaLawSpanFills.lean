-- Laid by lawrow.py: the row of the law SpanFills, out of the abstract machine's word. Not trusted: Lean checks it.
import Derived.Test.YtbmikefignmkdaaRows
import Derived.Test.YtbmikefignmkdaaAbGlue
import Derived.Test.YtbmikefignmkdaaAbVRow1
import Derived.Test.YtbmikefignmkdaaAbLittleM
import Derived.Test.YtbmikefignmkdaaAbVPut
import Derived.Test.YtbmikefignmkdaaAbVSame
import Derived.Test.YtbmikefignmkdaaAbVJoin
import Derived.Test.YtbmikefignmkdaaAbVSpan
import Derived.Test.YtbmikefignmkdaaAbVSpan2
import Derived.Test.YtbmikefignmkdaaAbVSpan3
import Derived.Test.YtbmikefignmkdaaAbVSpanR
import Derived.Test.YtbmikefignmkdaaAbVLaw
import Derived.Test.YtbmikefignmkdaaAbVFills
import Derived.Test.YtbmikefignmkdaaAbVRow
import Derived.WalkKit
import Derived.ProofKit
import Derived.OpenShut
import Derived.ShutString
import Derived.ChangeOld
import Derived.Below
import Derived.SizedLaws
import Derived.KernelRfl
set_option linter.unusedVariables false
namespace Go.Proofs.Ytbmikefignmkdaa.spanFills
open Go.ChangeShapes Go.WideShapes Go.ChangeAt Go.RowKit Go.Proofs.AbM Go.Proofs.Ytbmikefignmkdaa.VRow1 Go.Proofs.Ytbmikefignmkdaa.LittleM Go.Proofs.Ytbmikefignmkdaa.VPut Go.Proofs.Ytbmikefignmkdaa.VSame Go.Proofs.Ytbmikefignmkdaa.VJoin Go.Proofs.Ytbmikefignmkdaa.VSpan Go.Proofs.Ytbmikefignmkdaa.VSpan2 Go.Proofs.Ytbmikefignmkdaa.VSpan3 Go.Proofs.Ytbmikefignmkdaa.VSpanR Go.Proofs.Ytbmikefignmkdaa.VLaw Go.Proofs.Ytbmikefignmkdaa.VFills Go.Proofs.Ytbmikefignmkdaa.VRow
theorem own : ownKnob Try.prog.godebug = none := by kernel_rfl
theorem laidOut : laidOutB Try.prog = true := by kernel_rfl
set_option maxRecDepth 100000 in
theorem lifted (os : Os) (started : os.Started) (H : Type) (enc : TypeId × Value → H) :
    ReturnsInHanded {} Try.checked os 4 .any (Rows.spanFillsSpec.pre6 enc Try.prog Try.f4 Rows.spanFillsRow.domain false) (Rows.spanFillsSpec.post enc Try.prog Try.f4 false true false false) := by
  refine returnsInHanded_of_change_sized (C := Try.checked) own started (by kernel_rfl) Try.func4
    (ChangeSpec.witness6 (enc := enc) (C := Try.checked) false ⟨#[], #[.int .i64 0, .slice none 0 0], []⟩ 8 (by kernel_rfl) (by kernel_rfl) (by kernel_rfl) (by kernel_rfl)) ?_
  intro W base args ds gs before hval0 hW hcnd hsz0 _
  have hsz : (DataW.weightsEach Try.prog (Try.f4.params.toList ++ Rows.spanFillsSpec.plain.varTypes Try.prog) (ds ++ gs)).all (· ≤ reachBytes) = true := hsz0
  have hval : ∀ (j : Nat) t v, Try.f4.params[j]? = some t → args[j]? = some v → Value.okWide Try.prog W .any base t v := hval0
  have hW' := hW
  obtain ⟨p, q, hA0, hV, rfl, hfz, hnd⟩ := hW
  have hA : DataW.TrodAll enc Try.prog W 0 (fun _ => true) true Try.f4.params.toList args.toList ds p := hA0
  rw [Try.params4] at hA hval hsz
  obtain ⟨rfl, rfl⟩ := trodVars_none hV
  have hsz2 : (DataW.weightsEach Try.prog [3, 22] ds).all (· ≤ reachBytes) = true := by
    have h2 : (DataW.weightsEach Try.prog [3, 22] (ds ++ [])).all (· ≤ reachBytes) = true := hsz
    rwa [List.append_nil] at h2
  have hA2 : DataW.TrodAll enc Try.prog W 0 (fun _ => true) true [3, 22] args.toList ds p := hA
  have hO : OpensA enc Try.prog W [3, 22] _ := (opensA_one (by kernel_rfl) (opens_int (k := .i64) (by kernel_rfl)) (opensA_one (by kernel_rfl) (opens_slice (e := 35) (sz := 2) (by_ := 32) (by kernel_rfl) (by kernel_rfl) (by decide) (by kernel_rfl) (opens_struct Try.underlying35 (by kernel_rfl) (opens_fs_cons (sz := 1) rfl (by kernel_rfl) (opens_int (k := .i64) (by kernel_rfl)) (opens_fs_cons (sz := 1) rfl (by kernel_rfl) (opens_slice (e := 5) (sz := 1) (by_ := 1) (by kernel_rfl) (by kernel_rfl) (by decide) (by kernel_rfl) (opens_int (k := .u8) (by kernel_rfl))) opens_fs_nil)))) opensA_nil))
  obtain ⟨x, ws, hVR, hE⟩ := hO base args.toList ds p hA2 hsz2 (fun j t v h1 h2 => hval j t v (by simpa using h1) (by simpa using h2))
  have hA3 := hA2
  obtain ⟨v0, vs0, d0, ds0, p0, q0, hargs, rfl, rfl, h0, r0⟩ := trodAll_cons hA2
  obtain ⟨v1, vs1, d1, ds1, p1, q1, rfl, rfl, rfl, h1, r1⟩ := trodAll_cons r0
  obtain ⟨rfl, rfl, rfl⟩ := trodAll_nil r1
  have hcall : ∃ d, AC Try.prog W d 4 ws [] (fun v _ => v = .bool true) := by
    obtain ⟨u2, w2, rfl, ⟨e2, k2⟩, w1, t1, rfl, ⟨b1, hb1, hs1, hl1⟩, hn⟩ := hE
    cases hb1; cases e2; cases hn
    obtain ⟨nl, ys, q1, q2, q3, q4⟩ := ops_rv hs1
    exact ⟨8, law_v gok_none (fills_v (n := 0) rfl (by omega) (fun o ho => by have := (q2 o ho).2.1; omega) fun _ => rfl) (RVs.cons (.sc rfl) (RVs.cons q3 RVs.nil))⟩
  obtain ⟨d, hcall⟩ := hcall
  clear hA0 hval0 hsz0 hsz
  refine (law_calls hcall hVR).mono fun e W' ⟨he, bel⟩ => ?_
  subst he
  exact ⟨_, rfl, _, _, _, [], _, [], hW', trodAll_mk1 (shut_bool Try.underlying4 _), trodAll_below laidOut bel (by kernel_rfl) hA3, rfl, bel.frame _, fun h => by cases h⟩
theorem over : Rows.spanFillsRow.holds Try.pinned (OpenSpec.ofChange Rows.spanFillsSpec) :=
  OpenClaim.holds_of_wide 4 Try.f4 rfl rfl rfl rfl rfl rfl rfl ⟨rfl, rfl, rfl, rfl, rfl⟩ rfl rfl rfl rfl rfl (by kernel_rfl) Try.func4 (by kernel_rfl)
    (of_decide_eq_true (by kernel_rfl)) (by unfold Func.isWrapper; first | (rw [if_pos (by decide +kernel)]; kernel_rfl) | (rw [if_neg (by decide +kernel)]; exact ⟨rfl, rfl⟩))
    (fun os started H enc _ => lifted os started H enc)
theorem proved : Rows.SpanFillsSaid := over
#print axioms proved
end Go.Proofs.Ytbmikefignmkdaa.spanFills
namespace Go.Proofs.Ytbmikefignmkdaa
/-- The row, under a short name, for the claim. -/
theorem spanFills_holds : Rows.SpanFillsSaid := spanFills.proved
end Go.Proofs.Ytbmikefignmkdaa
