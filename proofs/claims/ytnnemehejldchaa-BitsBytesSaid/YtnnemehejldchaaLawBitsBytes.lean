-- Laid by lawrow.py: the row of the law BitsBytes, out of the abstract machine's word. Not trusted: Lean checks it.
import Derived.Test.YtnnemehejldchaaRows
import Derived.Test.YtnnemehejldchaaAbGlue
import Derived.Test.YtnnemehejldchaaAbVBytes
import Derived.Test.YtnnemehejldchaaAbVLaw
import Derived.WalkKit
import Derived.ProofKit
import Derived.OpenShut
import Derived.ShutString
import Derived.ChangeOld
import Derived.Below
import Derived.SizedLaws
import Derived.KernelRfl
set_option linter.unusedVariables false
namespace Go.Proofs.Ytnnemehejldchaa.bitsBytes
open Go.ChangeShapes Go.WideShapes Go.ChangeAt Go.RowKit Go.Proofs.AbM Go.Proofs.Ytnnemehejldchaa.VBytes Go.Proofs.Ytnnemehejldchaa.VLaw
theorem own : ownKnob Try.prog.godebug = none := by kernel_rfl
theorem laidOut : laidOutB Try.prog = true := by kernel_rfl
set_option maxRecDepth 100000 in
theorem lifted (os : Os) (started : os.Started) (H : Type) (enc : TypeId × Value → H) :
    ReturnsInHanded {} Try.checked os 6 .any (Rows.bitsBytesSpec.pre6 enc Try.prog Try.f6 Rows.bitsBytesRow.domain false) (Rows.bitsBytesSpec.post enc Try.prog Try.f6 false true false false) := by
  refine returnsInHanded_of_change_sized (C := Try.checked) own started (by kernel_rfl) Try.func6
    (ChangeSpec.witness6 (enc := enc) (C := Try.checked) false ⟨#[], #[.int .u32 0, .int .i64 0, .slice none 0 0, .int .u32 0], []⟩ 8 (by kernel_rfl) (by kernel_rfl) (by kernel_rfl) (by kernel_rfl)) ?_
  intro W base args ds gs before hval0 hW hcnd hsz0 _
  have hsz : (DataW.weightsEach Try.prog (Try.f6.params.toList ++ Rows.bitsBytesSpec.plain.varTypes Try.prog) (ds ++ gs)).all (· ≤ reachBytes) = true := hsz0
  have hval : ∀ (j : Nat) t v, Try.f6.params[j]? = some t → args[j]? = some v → Value.okWide Try.prog W .any base t v := hval0
  have hW' := hW
  obtain ⟨p, q, hA0, hV, rfl, hfz, hnd⟩ := hW
  have hA : DataW.TrodAll enc Try.prog W 0 (fun _ => true) true Try.f6.params.toList args.toList ds p := hA0
  rw [Try.params6] at hA hval hsz
  obtain ⟨rfl, rfl⟩ := trodVars_none hV
  have hsz2 : (DataW.weightsEach Try.prog [28, 3, 25, 28] ds).all (· ≤ reachBytes) = true := by
    have h2 : (DataW.weightsEach Try.prog [28, 3, 25, 28] (ds ++ [])).all (· ≤ reachBytes) = true := hsz
    rwa [List.append_nil] at h2
  have hA2 : DataW.TrodAll enc Try.prog W 0 (fun _ => true) true [28, 3, 25, 28] args.toList ds p := hA
  have hO : OpensA enc Try.prog W [28, 3, 25, 28] _ := opensA_one (by kernel_rfl) (opens_int (k := .u32) (by kernel_rfl)) (opensA_one (by kernel_rfl) (opens_int (k := .i64) (by kernel_rfl)) (opensA_one (by kernel_rfl) (opens_slice (e := 5) (sz := 1) (by_ := 1) (by kernel_rfl) (by kernel_rfl) (by decide) (by kernel_rfl) (opens_int (k := .u8) (by kernel_rfl))) (opensA_one (by kernel_rfl) (opens_int (k := .u32) (by kernel_rfl)) opensA_nil)))
  obtain ⟨x, ws, hVR, hE⟩ := hO base args.toList ds p hA2 hsz2 (fun j t v h1 h2 => hval j t v (by simpa using h1) (by simpa using h2))
  have hA3 := hA2
  obtain ⟨v0, vs0, d0, ds0, p0, q0, hargs, rfl, rfl, h0, r0⟩ := trodAll_cons hA2
  obtain ⟨v1, vs1, d1, ds1, p1, q1, rfl, rfl, rfl, h1, r1⟩ := trodAll_cons r0
  obtain ⟨v2, vs2, d2, ds2, p2, q2, rfl, rfl, rfl, h2, r2⟩ := trodAll_cons r1
  obtain ⟨v3, vs3, d3, ds3, p3, q3, rfl, rfl, rfl, h3, r3⟩ := trodAll_cons r2
  obtain ⟨rfl, rfl, rfl⟩ := trodAll_nil r3
  have hcall : ∃ d, AC Try.prog W d 6 ws [] (fun v _ => v = .bool true) := by
    obtain ⟨w1, t1, rfl, ⟨e1, k1⟩, w2, t2, rfl, ⟨e2, k2⟩, w3, t3, rfl, ⟨b3, hb3, hs3, hl3⟩, w4, t4, rfl, ⟨e4, k4⟩, hn⟩ := hE
    cases e1; cases e2; cases hb3; cases e4; cases hn
    obtain ⟨nl, ys, q1, q2, q3, q4⟩ := nats_rv (hs3 []) (fun x hx => wf_u8 hx)
    have r1 := wf_u32 k1
    have r4 := wf_u32 k4
    refine ⟨5, law_v gok_none (bytes_v (n := 0) (v := x.1.toNat) (more := x.2.2.2.1.toNat) (m := x.2.1) rfl (by rw [q1]; omega) (fun b hb => by have := q2 b hb; omega) q4 (by omega) (by omega)) (RVs.cons ?_ (RVs.cons (.sc rfl) (RVs.cons q3 (RVs.cons ?_ RVs.nil))))⟩
    · rw [Int.toNat_of_nonneg r1.1]; exact .sc rfl
    · rw [Int.toNat_of_nonneg r4.1]; exact .sc rfl
  obtain ⟨d, hcall⟩ := hcall
  clear hA0 hval0 hsz0 hsz
  refine (law_calls hcall hVR).mono fun e W' ⟨he, bel⟩ => ?_
  subst he
  exact ⟨_, rfl, _, _, _, [], _, [], hW', trodAll_mk1 (shut_bool Try.underlying4 _), trodAll_below laidOut bel (by kernel_rfl) hA3, rfl, bel.frame _, fun h => by cases h⟩
theorem over : Rows.bitsBytesRow.holds Try.pinned (OpenSpec.ofChange Rows.bitsBytesSpec) :=
  OpenClaim.holds_of_wide 6 Try.f6 rfl rfl rfl rfl rfl rfl rfl ⟨rfl, rfl, rfl, rfl, rfl⟩ rfl rfl rfl rfl rfl (by kernel_rfl) Try.func6 (by kernel_rfl)
    (of_decide_eq_true (by kernel_rfl)) (by unfold Func.isWrapper; first | (rw [if_pos (by decide +kernel)]; kernel_rfl) | (rw [if_neg (by decide +kernel)]; exact ⟨rfl, rfl⟩))
    (fun os started H enc _ => lifted os started H enc)
theorem proved : Rows.BitsBytesSaid := over
#print axioms proved
end Go.Proofs.Ytnnemehejldchaa.bitsBytes
namespace Go.Proofs.Ytnnemehejldchaa
/-- The row, under a short name, for the claim. -/
theorem bitsBytes_holds : Rows.BitsBytesSaid := bitsBytes.proved
end Go.Proofs.Ytnnemehejldchaa
