/- The walk of GfField: of every three bytes the law's calls, one behind the other. Conditions: none. -/
import Derived.Test.YtegnjcehklldpaaQ2
set_option linter.unusedVariables false
set_option linter.unusedSimpArgs false
namespace Go.Proofs.Ytegnjcehklldpaa.GfFieldWalk
open Go.RowKit Go.Proofs.Ytegnjcehklldpaa.Q Go.Proofs.YtegnjcehklldpaaW.PrintWords Go.Proofs.YtegnjcehklldpaaW.PrintLast Go.Proofs.YtegnjcehklldpaaW.PrintMore
set_option maxHeartbeats 8000000 in
set_option maxRecDepth 100000 in
theorem zero (b c ab bc abc bxc s ac i ii l : Int) (w : World) (h0 : footlockerlaw01_alive.f 1000 = some true) (m1 : gf_Mul.f 1000 0 b = some 0) (m2 : gf_Mul.f 1000 b 0 = some 0) (m3 : gf_Mul.f 1000 b c = some bc) (m4 : gf_Mul.f 1000 0 bc = some abc) (m5 : gf_Mul.f 1000 0 c = some abc) (a6 : gf_Add.f b c = some bxc) (m7 : gf_Mul.f 1000 0 bxc = some s) (m8 : gf_Mul.f 1000 0 c = some ac) (a9 : gf_Add.f 0 ac = some s) (m10 : gf_Mul.f 1000 0 1 = some 0) (i11 : gf_Inv.f 1000 0 = some 0) :
    Calls Try.prog 5 #[.int .u8 0, .int .u8 b, .int .u8 c] w fun e w' => e = .returned (.bool true) ∧ Below w.heap.size w w' := by
  replace h0 := Aside0.mk h0
  replace m1 := Aside0.mk m1
  replace m2 := Aside0.mk m2
  replace m3 := Aside0.mk m3
  replace m4 := Aside0.mk m4
  replace m5 := Aside0.mk m5
  replace a6 := Aside0.mk a6
  replace m7 := Aside0.mk m7
  replace m8 := Aside0.mk m8
  replace a9 := Aside0.mk a9
  replace m10 := Aside0.mk m10
  replace i11 := Aside0.mk i11
  go_enter Try.func5, Try.ntmps5
  go_wp2_with fail
  (with_reducible refine (footlockerlaw01_alive.calls 1000 true _ h0.out).mono ?_)
  rintro e w1 ⟨rfl, hb⟩
  have HB := Aside0.mk hb
  clear hb
  go_wp2_with fail
  (with_reducible refine (gf_Mul.calls 1000 _ _ _ _ m1.out).mono ?_)
  rintro e w2 ⟨rfl, ⟨nd, rfl⟩⟩
  go_wp2_with fail
  (with_reducible refine (gf_Mul.calls 1000 _ _ _ _ m2.out).mono ?_)
  rintro e w2 ⟨rfl, ⟨nd, rfl⟩⟩
  go_wp2_with fail
  (with_reducible refine (gf_Mul.calls 1000 _ _ _ _ m3.out).mono ?_)
  rintro e w2 ⟨rfl, ⟨nd, rfl⟩⟩
  go_wp2_with fail
  (with_reducible refine (gf_Mul.calls 1000 _ _ _ _ m4.out).mono ?_)
  rintro e w2 ⟨rfl, ⟨nd, rfl⟩⟩
  go_wp2_with fail
  (with_reducible refine (gf_Mul.calls 1000 _ _ _ _ m1.out).mono ?_)
  rintro e w2 ⟨rfl, ⟨nd, rfl⟩⟩
  go_wp2_with fail
  (with_reducible refine (gf_Mul.calls 1000 _ _ _ _ m5.out).mono ?_)
  rintro e w2 ⟨rfl, ⟨nd, rfl⟩⟩
  go_wp2_with fail
  (with_reducible refine (gf_Add.calls _ _ _ _ a6.out).mono ?_)
  rintro e w2 ⟨rfl, ⟨nd, rfl⟩⟩
  go_wp2_with fail
  (with_reducible refine (gf_Mul.calls 1000 _ _ _ _ m7.out).mono ?_)
  rintro e w2 ⟨rfl, ⟨nd, rfl⟩⟩
  go_wp2_with fail
  (with_reducible refine (gf_Mul.calls 1000 _ _ _ _ m1.out).mono ?_)
  rintro e w2 ⟨rfl, ⟨nd, rfl⟩⟩
  go_wp2_with fail
  (with_reducible refine (gf_Mul.calls 1000 _ _ _ _ m8.out).mono ?_)
  rintro e w2 ⟨rfl, ⟨nd, rfl⟩⟩
  go_wp2_with fail
  (with_reducible refine (gf_Add.calls _ _ _ _ a9.out).mono ?_)
  rintro e w2 ⟨rfl, ⟨nd, rfl⟩⟩
  go_wp2_with fail
  (with_reducible refine (gf_Mul.calls 1000 _ _ _ _ m10.out).mono ?_)
  rintro e w2 ⟨rfl, ⟨nd, rfl⟩⟩
  go_wp2_with fail
  (with_reducible refine (gf_Mul.calls 1000 _ _ _ _ m1.out).mono ?_)
  rintro e w2 ⟨rfl, ⟨nd, rfl⟩⟩
  go_wp2_with fail
  (with_reducible refine (gf_Inv.calls 1000 _ _ _ i11.out).mono ?_)
  rintro e w2 ⟨rfl, ⟨nd, rfl⟩⟩
  go_wp2
  go_ret
  exact ⟨by simp, by repeat (first | (with_reducible first | exact HB.out | apply pw_below_drewN | apply below_drew1) | exact HB.out)⟩
set_option maxHeartbeats 8000000 in
set_option maxRecDepth 100000 in
theorem other (a b c ab bc abc bxc s ac i ii l : Int) (w : World) (h0 : footlockerlaw01_alive.f 1000 = some true) (m1 : gf_Mul.f 1000 a b = some ab) (m2 : gf_Mul.f 1000 b a = some ab) (m3 : gf_Mul.f 1000 b c = some bc) (m4 : gf_Mul.f 1000 a bc = some abc) (m5 : gf_Mul.f 1000 ab c = some abc) (a6 : gf_Add.f b c = some bxc) (m7 : gf_Mul.f 1000 a bxc = some s) (m8 : gf_Mul.f 1000 a c = some ac) (a9 : gf_Add.f ab ac = some s) (m10 : gf_Mul.f 1000 a 1 = some a) (i11 : gf_Inv.f 1000 a = some i) (m12 : gf_Mul.f 1000 a i = some 1) (i13 : gf_Inv.f 1000 i = some a) (l14 : gf_Log.f 1000 a = some l) (e15 : gf_Exp.f 1000 l = some a) (ha : (a == 0) = false) (hn : ¬ a = 0) (hn2 : (a != 0) = true) (hz : (ab == 0) = (b == 0)) :
    Calls Try.prog 5 #[.int .u8 a, .int .u8 b, .int .u8 c] w fun e w' => e = .returned (.bool true) ∧ Below w.heap.size w w' := by
  replace h0 := Aside0.mk h0
  replace m1 := Aside0.mk m1
  replace m2 := Aside0.mk m2
  replace m3 := Aside0.mk m3
  replace m4 := Aside0.mk m4
  replace m5 := Aside0.mk m5
  replace a6 := Aside0.mk a6
  replace m7 := Aside0.mk m7
  replace m8 := Aside0.mk m8
  replace a9 := Aside0.mk a9
  replace m10 := Aside0.mk m10
  replace i11 := Aside0.mk i11
  replace m12 := Aside0.mk m12
  replace i13 := Aside0.mk i13
  replace l14 := Aside0.mk l14
  replace e15 := Aside0.mk e15
  go_enter Try.func5, Try.ntmps5
  go_wp2_with fail
  (with_reducible refine (footlockerlaw01_alive.calls 1000 true _ h0.out).mono ?_)
  rintro e w1 ⟨rfl, hb⟩
  have HB := Aside0.mk hb
  clear hb
  go_wp2_with fail
  (with_reducible refine (gf_Mul.calls 1000 _ _ _ _ m1.out).mono ?_)
  rintro e w2 ⟨rfl, ⟨nd, rfl⟩⟩
  go_wp2_with fail
  (with_reducible refine (gf_Mul.calls 1000 _ _ _ _ m2.out).mono ?_)
  rintro e w2 ⟨rfl, ⟨nd, rfl⟩⟩
  go_wp2_with fail
  (with_reducible refine (gf_Mul.calls 1000 _ _ _ _ m3.out).mono ?_)
  rintro e w2 ⟨rfl, ⟨nd, rfl⟩⟩
  go_wp2_with fail
  (with_reducible refine (gf_Mul.calls 1000 _ _ _ _ m4.out).mono ?_)
  rintro e w2 ⟨rfl, ⟨nd, rfl⟩⟩
  go_wp2_with fail
  (with_reducible refine (gf_Mul.calls 1000 _ _ _ _ m1.out).mono ?_)
  rintro e w2 ⟨rfl, ⟨nd, rfl⟩⟩
  go_wp2_with fail
  (with_reducible refine (gf_Mul.calls 1000 _ _ _ _ m5.out).mono ?_)
  rintro e w2 ⟨rfl, ⟨nd, rfl⟩⟩
  go_wp2_with fail
  (with_reducible refine (gf_Add.calls _ _ _ _ a6.out).mono ?_)
  rintro e w2 ⟨rfl, ⟨nd, rfl⟩⟩
  go_wp2_with fail
  (with_reducible refine (gf_Mul.calls 1000 _ _ _ _ m7.out).mono ?_)
  rintro e w2 ⟨rfl, ⟨nd, rfl⟩⟩
  go_wp2_with fail
  (with_reducible refine (gf_Mul.calls 1000 _ _ _ _ m1.out).mono ?_)
  rintro e w2 ⟨rfl, ⟨nd, rfl⟩⟩
  go_wp2_with fail
  (with_reducible refine (gf_Mul.calls 1000 _ _ _ _ m8.out).mono ?_)
  rintro e w2 ⟨rfl, ⟨nd, rfl⟩⟩
  go_wp2_with fail
  (with_reducible refine (gf_Add.calls _ _ _ _ a9.out).mono ?_)
  rintro e w2 ⟨rfl, ⟨nd, rfl⟩⟩
  go_wp2_with fail
  (with_reducible refine (gf_Mul.calls 1000 _ _ _ _ m10.out).mono ?_)
  rintro e w2 ⟨rfl, ⟨nd, rfl⟩⟩
  go_wp2_with fail
  (with_reducible refine (gf_Mul.calls 1000 _ _ _ _ m1.out).mono ?_)
  rintro e w2 ⟨rfl, ⟨nd, rfl⟩⟩
  go_wp2_with fail
  (with_reducible refine (gf_Inv.calls 1000 _ _ _ i11.out).mono ?_)
  rintro e w2 ⟨rfl, ⟨nd, rfl⟩⟩
  go_wp2_with fail
  (with_reducible refine (gf_Mul.calls 1000 _ _ _ _ m12.out).mono ?_)
  rintro e w2 ⟨rfl, ⟨nd, rfl⟩⟩
  go_wp2_with fail
  (with_reducible refine (gf_Inv.calls 1000 _ _ _ i11.out).mono ?_)
  rintro e w2 ⟨rfl, ⟨nd, rfl⟩⟩
  go_wp2_with fail
  (with_reducible refine (gf_Inv.calls 1000 _ _ _ i13.out).mono ?_)
  rintro e w2 ⟨rfl, ⟨nd, rfl⟩⟩
  go_wp2_with fail
  (with_reducible refine (gf_Log.calls 1000 _ _ _ l14.out).mono ?_)
  rintro e w2 ⟨rfl, ⟨nd, rfl⟩⟩
  go_wp2_with fail
  (with_reducible refine (gf_Exp.calls 1000 _ _ _ e15.out).mono ?_)
  rintro e w2 ⟨rfl, ⟨nd, rfl⟩⟩
  go_wp2
  go_ret
  exact ⟨by simp, by repeat (first | (with_reducible first | exact HB.out | apply pw_below_drewN | apply below_drew1) | exact HB.out)⟩
end Go.Proofs.Ytegnjcehklldpaa.GfFieldWalk
