-- Laid by lawrow.py: the row of the law TailBack, out of the abstract machine's word. Not trusted: Lean checks it.
import Derived.Test.YtcdjaihaalaepaaRows
import Derived.Test.YtcdjaihaalaepaaAbGlue
import Derived.Test.YtcdjaihaalaepaaAbLittleM
import Derived.Test.YtcdjaihaalaepaaAbVLittle
import Derived.Test.YtcdjaihaalaepaaAbVSame
import Derived.Test.YtcdjaihaalaepaaAbVRef07
import Derived.Test.YtcdjaihaalaepaaAbVTail
import Derived.Test.YtcdjaihaalaepaaAbVTailR
import Derived.Test.YtcdjaihaalaepaaAbVTailP
import Derived.Test.YtcdjaihaalaepaaAbVTailQ
import Derived.Test.YtcdjaihaalaepaaAbVParse
import Derived.Test.YtcdjaihaalaepaaAbVLaw
import Derived.Test.YtcdjaihaalaepaaAbVTailM
import Derived.Test.YtcdjaihaalaepaaAbVLawB
import Derived.Test.YtcdjaihaalaepaaAbVRow
import Derived.WalkKit
import Derived.ProofKit
import Derived.OpenShut
import Derived.ShutString
import Derived.ChangeOld
import Derived.Below
import Derived.SizedLaws
import Derived.KernelRfl
set_option linter.unusedVariables false
namespace Go.Proofs.Ytcdjaihaalaepaa.tailBack
open Go.ChangeShapes Go.WideShapes Go.ChangeAt Go.RowKit Go.Proofs.AbM Go.Proofs.Ytcdjaihaalaepaa.LittleM Go.Proofs.Ytcdjaihaalaepaa.VLittle Go.Proofs.Ytcdjaihaalaepaa.VSame Go.Proofs.Ytcdjaihaalaepaa.VRef07 Go.Proofs.Ytcdjaihaalaepaa.VTail Go.Proofs.Ytcdjaihaalaepaa.VTailR Go.Proofs.Ytcdjaihaalaepaa.VTailP Go.Proofs.Ytcdjaihaalaepaa.VTailQ Go.Proofs.Ytcdjaihaalaepaa.VParse Go.Proofs.Ytcdjaihaalaepaa.VLaw Go.Proofs.Ytcdjaihaalaepaa.VTailM Go.Proofs.Ytcdjaihaalaepaa.VLawB Go.Proofs.Ytcdjaihaalaepaa.VRow
theorem own : ownKnob Try.prog.godebug = none := by kernel_rfl
theorem laidOut : laidOutB Try.prog = true := by kernel_rfl
set_option maxRecDepth 100000 in
theorem lifted (os : Os) (started : os.Started) (H : Type) (enc : TypeId × Value → H) :
    ReturnsInHanded {} Try.checked os 5 .any (Rows.tailBackSpec.pre6 enc Try.prog Try.f5 Rows.tailBackRow.domain false) (Rows.tailBackSpec.post enc Try.prog Try.f5 false true false false) := by
  refine returnsInHanded_of_change_sized (C := Try.checked) own started (by kernel_rfl) Try.func5
    (ChangeSpec.witness6 (enc := enc) (C := Try.checked) false ⟨#[], #[.agg #[.int .u32 0, .int .u32 0, .int .u64 0, .int .u64 0, .int .u64 0, .int .u64 0, .int .u32 0, .int .u32 0, .int .u64 0], .agg #[.int .u32 0, .int .u32 0, .int .u64 0, .int .u64 0, .int .u64 0, .int .u64 0, .int .u32 0, .int .u32 0, .int .u64 0], .slice none 0 0, .slice none 0 0, .slice none 0 0], []⟩ 8 (by kernel_rfl) (by kernel_rfl) (by kernel_rfl) (by kernel_rfl)) ?_
  intro W base args ds gs before hval0 hW hcnd hsz0 _
  have hsz : (DataW.weightsEach Try.prog (Try.f5.params.toList ++ Rows.tailBackSpec.plain.varTypes Try.prog) (ds ++ gs)).all (· ≤ reachBytes) = true := hsz0
  have hval : ∀ (j : Nat) t v, Try.f5.params[j]? = some t → args[j]? = some v → Value.okWide Try.prog W .any base t v := hval0
  have hW' := hW
  obtain ⟨p, q, hA0, hV, rfl, hfz, hnd⟩ := hW
  have hA : DataW.TrodAll enc Try.prog W 0 (fun _ => true) true Try.f5.params.toList args.toList ds p := hA0
  rw [Try.params5] at hA hval hsz
  obtain ⟨rfl, rfl⟩ := trodVars_none hV
  have hsz2 : (DataW.weightsEach Try.prog [25, 25, 29, 29, 29] ds).all (· ≤ reachBytes) = true := by
    have h2 : (DataW.weightsEach Try.prog [25, 25, 29, 29, 29] (ds ++ [])).all (· ≤ reachBytes) = true := hsz
    rwa [List.append_nil] at h2
  have hA2 : DataW.TrodAll enc Try.prog W 0 (fun _ => true) true [25, 25, 29, 29, 29] args.toList ds p := hA
  have hO : OpensA enc Try.prog W [25, 25, 29, 29, 29] _ := (opensA_agg Try.underlying25 (opens_struct Try.underlying25 (by kernel_rfl) (opens_fs_cons (sz := 1) rfl (by kernel_rfl) (opens_int (k := .u32) (by kernel_rfl)) (opens_fs_cons (sz := 1) rfl (by kernel_rfl) (opens_int (k := .u32) (by kernel_rfl)) (opens_fs_cons (sz := 1) rfl (by kernel_rfl) (opens_int (k := .u64) (by kernel_rfl)) (opens_fs_cons (sz := 1) rfl (by kernel_rfl) (opens_int (k := .u64) (by kernel_rfl)) (opens_fs_cons (sz := 1) rfl (by kernel_rfl) (opens_int (k := .u64) (by kernel_rfl)) (opens_fs_cons (sz := 1) rfl (by kernel_rfl) (opens_int (k := .u64) (by kernel_rfl)) (opens_fs_cons (sz := 1) rfl (by kernel_rfl) (opens_int (k := .u32) (by kernel_rfl)) (opens_fs_cons (sz := 1) rfl (by kernel_rfl) (opens_int (k := .u32) (by kernel_rfl)) (opens_fs_cons (sz := 1) rfl (by kernel_rfl) (opens_int (k := .u64) (by kernel_rfl)) opens_fs_nil)))))))))) (opensA_agg Try.underlying25 (opens_struct Try.underlying25 (by kernel_rfl) (opens_fs_cons (sz := 1) rfl (by kernel_rfl) (opens_int (k := .u32) (by kernel_rfl)) (opens_fs_cons (sz := 1) rfl (by kernel_rfl) (opens_int (k := .u32) (by kernel_rfl)) (opens_fs_cons (sz := 1) rfl (by kernel_rfl) (opens_int (k := .u64) (by kernel_rfl)) (opens_fs_cons (sz := 1) rfl (by kernel_rfl) (opens_int (k := .u64) (by kernel_rfl)) (opens_fs_cons (sz := 1) rfl (by kernel_rfl) (opens_int (k := .u64) (by kernel_rfl)) (opens_fs_cons (sz := 1) rfl (by kernel_rfl) (opens_int (k := .u64) (by kernel_rfl)) (opens_fs_cons (sz := 1) rfl (by kernel_rfl) (opens_int (k := .u32) (by kernel_rfl)) (opens_fs_cons (sz := 1) rfl (by kernel_rfl) (opens_int (k := .u32) (by kernel_rfl)) (opens_fs_cons (sz := 1) rfl (by kernel_rfl) (opens_int (k := .u64) (by kernel_rfl)) opens_fs_nil)))))))))) (opensA_one (by kernel_rfl) (opens_slice (e := 5) (sz := 1) (by_ := 1) (by kernel_rfl) (by kernel_rfl) (by decide) (by kernel_rfl) (opens_int (k := .u8) (by kernel_rfl))) (opensA_one (by kernel_rfl) (opens_slice (e := 5) (sz := 1) (by_ := 1) (by kernel_rfl) (by kernel_rfl) (by decide) (by kernel_rfl) (opens_int (k := .u8) (by kernel_rfl))) (opensA_one (by kernel_rfl) (opens_slice (e := 5) (sz := 1) (by_ := 1) (by kernel_rfl) (by kernel_rfl) (by decide) (by kernel_rfl) (opens_int (k := .u8) (by kernel_rfl))) opensA_nil)))))
  obtain ⟨x, ws, hVR, hE⟩ := hO base args.toList ds p hA2 hsz2 (fun j t v h1 h2 => hval j t v (by simpa using h1) (by simpa using h2))
  have hA3 := hA2
  obtain ⟨v0, vs0, d0, ds0, p0, q0, hargs, rfl, rfl, h0, r0⟩ := trodAll_cons hA2
  obtain ⟨v1, vs1, d1, ds1, p1, q1, rfl, rfl, rfl, h1, r1⟩ := trodAll_cons r0
  obtain ⟨v2, vs2, d2, ds2, p2, q2, rfl, rfl, rfl, h2, r2⟩ := trodAll_cons r1
  obtain ⟨v3, vs3, d3, ds3, p3, q3, rfl, rfl, rfl, h3, r3⟩ := trodAll_cons r2
  obtain ⟨v4, vs4, d4, ds4, p4, q4, rfl, rfl, rfl, h4, r4⟩ := trodAll_cons r3
  obtain ⟨rfl, rfl, rfl⟩ := trodAll_nil r4
  have hcall : ∃ d, AC Try.prog W d 5 ws [] (fun v _ => v = .bool true) := by
    obtain ⟨cs4, t4, rfl, h4, cs5, t5, rfl, h5, w1, t1, rfl, ⟨b1, hb1, hs1, hl1⟩, w2, t2, rfl, ⟨b2, hb2, hs2, hl2⟩, w3, t3, rfl, ⟨b3, hb3, hs3, hl3⟩, hn⟩ := hE
    cases hb1; cases hb2; cases hb3; cases hn
    obtain ⟨t, e1, e2⟩ := tail_rv h4
    obtain ⟨u, f1, f2⟩ := tail_rv h5
    obtain ⟨nl1, ys1, q1, q2, q3, q4⟩ := nats_rv (hs1 []) (fun x hx => wf_u8 hx)
    obtain ⟨nl2, ys2, p1, p2, p3, p4⟩ := nats_rv (hs2 []) (fun x hx => wf_u8 hx)
    obtain ⟨nl3, ys3, o1, o2, o3, o4⟩ := nats_rv (hs3 []) (fun x hx => wf_u8 hx)
    exact ⟨8, law_v gok_none (back_v (n := 0) e1 f1 rfl rfl rfl (fun b hb => by have := q2 b hb; omega) (fun b hb => by have := p2 b hb; omega) (fun b hb => by have := o2 b hb; omega) (by rw [q1]; omega) (by rw [p1]; omega) (by rw [o1]; omega) q4 p4 fun _ => rfl) (RVs.cons e2 (RVs.cons f2 (RVs.cons q3 (RVs.cons p3 (RVs.cons o3 RVs.nil)))))⟩
  obtain ⟨d, hcall⟩ := hcall
  clear hA0 hval0 hsz0 hsz
  refine (law_calls hcall hVR).mono fun e W' ⟨he, bel⟩ => ?_
  subst he
  exact ⟨_, rfl, _, _, _, [], _, [], hW', trodAll_mk1 (shut_bool Try.underlying4 _), trodAll_below laidOut bel (by kernel_rfl) hA3, rfl, bel.frame _, fun h => by cases h⟩
theorem over : Rows.tailBackRow.holds Try.pinned (OpenSpec.ofChange Rows.tailBackSpec) :=
  OpenClaim.holds_of_wide 5 Try.f5 rfl rfl rfl rfl rfl rfl rfl ⟨rfl, rfl, rfl, rfl, rfl⟩ rfl rfl rfl rfl rfl (by kernel_rfl) Try.func5 (by kernel_rfl)
    (of_decide_eq_true (by kernel_rfl)) (by unfold Func.isWrapper; first | (rw [if_pos (by decide +kernel)]; kernel_rfl) | (rw [if_neg (by decide +kernel)]; exact ⟨rfl, rfl⟩))
    (fun os started H enc _ => lifted os started H enc)
theorem proved : Rows.TailBackSaid := over
#print axioms proved
end Go.Proofs.Ytcdjaihaalaepaa.tailBack
namespace Go.Proofs.Ytcdjaihaalaepaa
/-- The row, under a short name, for the claim. -/
theorem tailBack_holds : Rows.TailBackSaid := tailBack.proved
end Go.Proofs.Ytcdjaihaalaepaa
