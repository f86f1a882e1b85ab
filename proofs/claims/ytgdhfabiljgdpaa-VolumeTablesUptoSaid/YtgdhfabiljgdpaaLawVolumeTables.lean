-- Laid by lawrow.py: the row of the law VolumeTables, out of the abstract machine's word. Not trusted: Lean checks it.
import Derived.Test.YtgdhfabiljgdpaaRows
import Derived.Test.YtgdhfabiljgdpaaAbGlue
import Derived.Test.YtgdhfabiljgdpaaAbVRows
import Derived.Test.YtgdhfabiljgdpaaAbVRows2
import Derived.Test.YtgdhfabiljgdpaaAbVRows3
import Derived.Test.YtgdhfabiljgdpaaAbVSlots
import Derived.Test.YtgdhfabiljgdpaaAbVSame
import Derived.Test.YtgdhfabiljgdpaaAbVSlots2
import Derived.Test.YtgdhfabiljgdpaaAbVSlots3
import Derived.Test.YtgdhfabiljgdpaaAbVLaw
import Derived.Test.YtgdhfabiljgdpaaAbVLawB
import Derived.Test.YtgdhfabiljgdpaaAbVLawC
import Derived.Test.YtgdhfabiljgdpaaAbVRow
import Derived.WalkKit
import Derived.ProofKit
import Derived.OpenShut
import Derived.ShutString
import Derived.ChangeOld
import Derived.Below
import Derived.SizedLaws
import Derived.KernelRfl
import Derived.JoinedCond
import Derived.Deep.CondSized
set_option linter.unusedVariables false
namespace Go.Proofs.Ytgdhfabiljgdpaa.volumeTables
open Go.ChangeShapes Go.WideShapes Go.ChangeAt Go.RowKit Go.Proofs.AbM Go.Proofs.Ytgdhfabiljgdpaa.VRows Go.Proofs.Ytgdhfabiljgdpaa.VRows2 Go.Proofs.Ytgdhfabiljgdpaa.VRows3 Go.Proofs.Ytgdhfabiljgdpaa.VSlots Go.Proofs.Ytgdhfabiljgdpaa.VSame Go.Proofs.Ytgdhfabiljgdpaa.VSlots2 Go.Proofs.Ytgdhfabiljgdpaa.VSlots3 Go.Proofs.Ytgdhfabiljgdpaa.VLaw Go.Proofs.Ytgdhfabiljgdpaa.VLawB Go.Proofs.Ytgdhfabiljgdpaa.VLawC Go.Proofs.Ytgdhfabiljgdpaa.VRow
theorem own : ownKnob Try.prog.godebug = none := by kernel_rfl
theorem laidOut : laidOutB Try.prog = true := by kernel_rfl
set_option maxRecDepth 100000 in
theorem lifted (os : Os) (started : os.Started) (H : Type) (enc : TypeId × Value → H) (F : Stop.Interp) :
    ReturnsInHanded {} Try.checked os 3 .any ((Rows.OpenSpec.upto Rows.volumeTablesSpec).pre6 enc Try.prog Try.f3 Rows.volumeTablesUptoRow.domain false) (((Rows.OpenSpec.upto Rows.volumeTablesSpec).at F).post enc Try.prog Try.f3 false true false false) := by
  refine returnsInHanded_of_cond_sized (C := Try.checked) (s := Rows.OpenSpec.upto Rows.volumeTablesSpec) (k := Rows.uptoSmall) rfl own started (by kernel_rfl) Try.func3
    (OpenSpec.witness (enc := enc) (C := Try.checked) (s := Rows.OpenSpec.upto Rows.volumeTablesSpec) (k := Rows.uptoSmall) rfl false ⟨#[], #[.slice none 0 0, .slice none 0 0, .int .i64 0], []⟩ 8 (by kernel_rfl) (by kernel_rfl) (by kernel_rfl)
      (x := ([.nil, .nil, .lit (.int .i64 0)], [], [])) (by kernel_rfl) rfl (by kernel_rfl)) ?_
  intro W base args ds gs before hval0 hW hcnd hk0 hsz0 _
  have hsz : (DataW.weightsEach Try.prog (Try.f3.params.toList ++ Rows.volumeTablesSpec.plain.varTypes Try.prog) (ds ++ gs)).all (· ≤ reachBytes) = true := hsz0
  have hval : ∀ (j : Nat) t v, Try.f3.params[j]? = some t → args[j]? = some v → Value.okWide Try.prog W .any base t v := hval0
  have hW' := hW
  obtain ⟨p, q, hA0, hV, rfl, hfz, hnd⟩ := hW
  have hA : DataW.TrodAll enc Try.prog W 0 (fun _ => true) true Try.f3.params.toList args.toList ds p := hA0
  rw [Try.params3] at hA hval hsz
  obtain ⟨rfl, rfl⟩ := trodVars_none hV
  have hsz2 : (DataW.weightsEach Try.prog [22, 22, 3] ds).all (· ≤ reachBytes) = true := by
    have h2 : (DataW.weightsEach Try.prog [22, 22, 3] (ds ++ [])).all (· ≤ reachBytes) = true := hsz
    rwa [List.append_nil] at h2
  have hA2 : DataW.TrodAll enc Try.prog W 0 (fun _ => true) true [22, 22, 3] args.toList ds p := hA
  have hO : OpensA enc Try.prog W [22, 22, 3] _ := (opensA_one (by kernel_rfl) (opens_slice (e := 27) (sz := 2) (by_ := 32) (by kernel_rfl) (by kernel_rfl) (by decide) (by kernel_rfl) (opens_struct Try.underlying27 (by kernel_rfl) (opens_fs_cons (sz := 1) rfl (by kernel_rfl) (opens_bool (by kernel_rfl)) (opens_fs_cons (sz := 1) rfl (by kernel_rfl) (opens_slice (e := 5) (sz := 1) (by_ := 1) (by kernel_rfl) (by kernel_rfl) (by decide) (by kernel_rfl) (opens_int (k := .u8) (by kernel_rfl))) opens_fs_nil)))) (opensA_one (by kernel_rfl) (opens_slice (e := 27) (sz := 2) (by_ := 32) (by kernel_rfl) (by kernel_rfl) (by decide) (by kernel_rfl) (opens_struct Try.underlying27 (by kernel_rfl) (opens_fs_cons (sz := 1) rfl (by kernel_rfl) (opens_bool (by kernel_rfl)) (opens_fs_cons (sz := 1) rfl (by kernel_rfl) (opens_slice (e := 5) (sz := 1) (by_ := 1) (by kernel_rfl) (by kernel_rfl) (by decide) (by kernel_rfl) (opens_int (k := .u8) (by kernel_rfl))) opens_fs_nil)))) (opensA_one (by kernel_rfl) (opens_int (k := .i64) (by kernel_rfl)) opensA_nil)))
  obtain ⟨x, ws, hVR, hE⟩ := hO base args.toList ds p hA2 hsz2 (fun j t v h1 h2 => hval j t v (by simpa using h1) (by simpa using h2))
  have hA3 := hA2
  obtain ⟨v0, vs0, d0, ds0, p0, q0, hargs, rfl, rfl, h0, r0⟩ := trodAll_cons hA2
  obtain ⟨v1, vs1, d1, ds1, p1, q1, rfl, rfl, rfl, h1, r1⟩ := trodAll_cons r0
  obtain ⟨v2, vs2, d2, ds2, p2, q2, rfl, rfl, rfl, h2, r2⟩ := trodAll_cons r1
  obtain ⟨rfl, rfl, rfl⟩ := trodAll_nil r2
  have hcall : ∃ d, AC Try.prog W d 3 ws [] (fun v _ => v = .bool true) := by
    obtain ⟨w1, t1, rfl, ⟨b1, hb1, hs1, hl1⟩, w2, t2, rfl, ⟨b2, hb2, hs2, hl2⟩, u3, w3, rfl, ⟨e3, k3⟩, hn⟩ := hE
    cases hb1; cases hb2; cases e3; cases hn
    have n1 := arg_len Try.underlying22 hs1 (hVR.2 0 _ _ rfl (by rw [hargs]; rfl)) h0
    have n2 := arg_len Try.underlying22 hs2 (hVR.2 1 _ _ rfl (by rw [hargs]; rfl)) h1
    have hk1 := of_decide_eq_true hk0
    simp only [List.append_nil, Rows.uptoBulkAll] at hk1
    obtain ⟨nl, ys, q1, q2, q3, q4⟩ := slots_rv hs1
    obtain ⟨nl2, ys2, p1, p2, p3, p4⟩ := slots_rv hs2
    exact ⟨8, law_v gok_none (tables_v (n := 0) rfl rfl (fun s hs => ⟨by have := (q2 s hs).2.1; omega, (q2 s hs).2.2⟩) (fun s hs => by have := (p2 s hs).2.1; omega) (by omega) (by omega) rfl) (RVs.cons q3 (RVs.cons p3 (RVs.cons (.sc rfl) RVs.nil)))⟩
  obtain ⟨d, hcall⟩ := hcall
  clear hA0 hval0 hsz0 hsz
  refine (law_calls hcall hVR).mono fun e W' ⟨he, bel⟩ => ?_
  subst he
  exact ⟨_, rfl, _, _, _, [], _, [], hW', trodAll_mk1 (shut_bool Try.underlying4 _), trodAll_below laidOut bel (by kernel_rfl) hA3, rfl, bel.frame _, fun h => by cases h⟩
theorem over : Rows.VolumeTablesUptoSaid :=
  OpenClaim.holds_of_cond 3 Try.f3 rfl rfl rfl rfl rfl rfl rfl ⟨rfl, rfl, rfl, rfl, rfl⟩ rfl rfl rfl rfl rfl (by kernel_rfl) Try.func3 (by kernel_rfl)
    (of_decide_eq_true (by kernel_rfl)) (by unfold Func.isWrapper; first | (rw [if_pos (by decide +kernel)]; kernel_rfl) | (rw [if_neg (by decide +kernel)]; exact ⟨rfl, rfl⟩))
    (fun os started H enc _ F => lifted os started H enc F)
theorem proved : Rows.VolumeTablesUptoSaid := over
#print axioms proved
end Go.Proofs.Ytgdhfabiljgdpaa.volumeTables
namespace Go.Proofs.Ytgdhfabiljgdpaa
/-- The row, under a short name, for the claim. -/
theorem volumeTables_holds : Rows.VolumeTablesUptoSaid := volumeTables.proved
end Go.Proofs.Ytgdhfabiljgdpaa
