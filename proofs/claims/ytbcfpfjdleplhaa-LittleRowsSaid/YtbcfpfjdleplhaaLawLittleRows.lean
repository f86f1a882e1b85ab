-- Laid by lawrow.py: the row of the law LittleRows, out of the abstract machine's word. Not trusted: Lean checks it.
import Derived.Test.YtbcfpfjdleplhaaRows
import Derived.Test.YtbcfpfjdleplhaaAbGlue
import Derived.Test.YtbcfpfjdleplhaaAbLittle
import Derived.Test.YtbcfpfjdleplhaaAbLittle2
import Derived.Test.YtbcfpfjdleplhaaAbLittle3
import Derived.Test.YtbcfpfjdleplhaaAbLittle4
import Derived.WalkKit
import Derived.ProofKit
import Derived.OpenShut
import Derived.ShutString
import Derived.ChangeOld
import Derived.Below
import Derived.SizedLaws
import Derived.KernelRfl
set_option linter.unusedVariables false
namespace Go.Proofs.Ytbcfpfjdleplhaa.littleRows
open Go.ChangeShapes Go.WideShapes Go.ChangeAt Go.RowKit Go.Proofs.AbM Go.Proofs.Ytbcfpfjdleplhaa.Little Go.Proofs.Ytbcfpfjdleplhaa.Little2 Go.Proofs.Ytbcfpfjdleplhaa.Little3 Go.Proofs.Ytbcfpfjdleplhaa.Little4
theorem own : ownKnob Try.prog.godebug = none := by kernel_rfl
theorem laidOut : laidOutB Try.prog = true := by kernel_rfl
set_option maxRecDepth 100000 in
theorem lifted (os : Os) (started : os.Started) (H : Type) (enc : TypeId × Value → H) :
    ReturnsInHanded {} Try.checked os 4 .any (Rows.littleRowsSpec.pre6 enc Try.prog Try.f4 Rows.littleRowsRow.domain false) (Rows.littleRowsSpec.post enc Try.prog Try.f4 false true false false) := by
  refine returnsInHanded_of_change_sized (C := Try.checked) own started (by kernel_rfl) Try.func4
    (ChangeSpec.witness6 (enc := enc) (C := Try.checked) false ⟨#[], #[.slice none 0 0, .slice none 0 0], []⟩ 8 (by kernel_rfl) (by kernel_rfl) (by kernel_rfl) (by kernel_rfl)) ?_
  intro W base args ds gs before hval0 hW hcnd hsz0 _
  have hsz : (DataW.weightsEach Try.prog (Try.f4.params.toList ++ Rows.littleRowsSpec.plain.varTypes Try.prog) (ds ++ gs)).all (· ≤ reachBytes) = true := hsz0
  have hval : ∀ (j : Nat) t v, Try.f4.params[j]? = some t → args[j]? = some v → Value.okWide Try.prog W .any base t v := hval0
  have hW' := hW
  obtain ⟨p, q, hA0, hV, rfl, hfz, hnd⟩ := hW
  have hA : DataW.TrodAll enc Try.prog W 0 (fun _ => true) true Try.f4.params.toList args.toList ds p := hA0
  rw [Try.params4] at hA hval hsz
  obtain ⟨rfl, rfl⟩ := trodVars_none hV
  have hsz2 : (DataW.weightsEach Try.prog [30, 31] ds).all (· ≤ reachBytes) = true := by
    have h2 : (DataW.weightsEach Try.prog [30, 31] (ds ++ [])).all (· ≤ reachBytes) = true := hsz
    rwa [List.append_nil] at h2
  have hA2 : DataW.TrodAll enc Try.prog W 0 (fun _ => true) true [30, 31] args.toList ds p := hA
  have hO : OpensA enc Try.prog W [30, 31] _ := opensA_one (by kernel_rfl) (opens_slice (e := 22) (sz := 1) (by_ := 8) (by kernel_rfl) (by kernel_rfl) (by decide) (by kernel_rfl) (opens_int (k := .u64) (by kernel_rfl))) (opensA_one (by kernel_rfl) (opens_slice (e := 3) (sz := 1) (by_ := 8) (by kernel_rfl) (by kernel_rfl) (by decide) (by kernel_rfl) (opens_int (k := .i64) (by kernel_rfl))) opensA_nil)
  obtain ⟨x, ws, hVR, hE⟩ := hO base args.toList ds p hA2 hsz2 (fun j t v h1 h2 => hval j t v (by simpa using h1) (by simpa using h2))
  have hA3 := hA2
  obtain ⟨v0, vs0, d0, ds0, p0, q0, hargs, rfl, rfl, h0, r0⟩ := trodAll_cons hA2
  obtain ⟨v1, vs1, d1, ds1, p1, q1, rfl, rfl, rfl, h1, r1⟩ := trodAll_cons r0
  obtain ⟨rfl, rfl, rfl⟩ := trodAll_nil r1
  have hcall : ∃ d, AC Try.prog W d 4 ws [] (fun v _ => v = .bool true) := by
    obtain ⟨w1, ws1, rfl, ⟨u1, hu1, hs1, hl1⟩, w2, ws2, rfl, ⟨u2, hu2, hs2, hl2⟩, hn⟩ := hE
    cases hu1; cases hu2; cases hn
    exact ⟨5, rows_ac (n := 0) (fun h => (hs1 h).ints.1) (fun h => (hs2 h).ints.1) (hs1 []).ints.2 (by omega) (by omega)⟩
  obtain ⟨d, hcall⟩ := hcall
  clear hA0 hval0 hsz0 hsz
  refine (law_calls hcall hVR).mono fun e W' ⟨he, bel⟩ => ?_
  subst he
  exact ⟨_, rfl, _, _, _, [], _, [], hW', trodAll_mk1 (shut_bool Try.underlying4 _), trodAll_below laidOut bel (by kernel_rfl) hA3, rfl, bel.frame _, fun h => by cases h⟩
theorem over : Rows.littleRowsRow.holds Try.pinned (OpenSpec.ofChange Rows.littleRowsSpec) :=
  OpenClaim.holds_of_wide 4 Try.f4 rfl rfl rfl rfl rfl rfl rfl ⟨rfl, rfl, rfl, rfl, rfl⟩ rfl rfl rfl rfl rfl (by kernel_rfl) Try.func4 (by kernel_rfl)
    (of_decide_eq_true (by kernel_rfl)) (by unfold Func.isWrapper; first | (rw [if_pos (by decide +kernel)]; kernel_rfl) | (rw [if_neg (by decide +kernel)]; exact ⟨rfl, rfl⟩))
    (fun os started H enc _ => lifted os started H enc)
theorem proved : Rows.LittleRowsSaid := over
#print axioms proved
end Go.Proofs.Ytbcfpfjdleplhaa.littleRows
namespace Go.Proofs.Ytbcfpfjdleplhaa
/-- The row, under a short name, for the claim. -/
theorem littleRows_holds : Rows.LittleRowsSaid := littleRows.proved
end Go.Proofs.Ytbcfpfjdleplhaa
