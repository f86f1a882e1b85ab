/- The machine of values: calls, code; that the abstract machine follows it. -/
import Derived.Test.YtbmidddpddiopaaDoorAbV3
set_option linter.unusedVariables false
set_option linter.unusedSimpArgs false
namespace Go.Proofs.AbM
open Go.RowKit
section
variable {P : Program} {W0 : World} {C C' : Cx} {h : VH} {h1 : Hp} {K : AV → VH → Prop} {t : TypeId}
theorem len_v (R : VRel W0 C h h1) {x : AV} {u : Value} (hx : RV W0 C x u) (hw : vLen P t x h K) : wLen P t u h1 (VK W0 C K) := by
  cases x with
  | sc v =>
    obtain ⟨rfl, _⟩ := hx.sc_inv
    cases u with
    | string s => exact ⟨hw.1, .same R (.sc rfl) hw.2⟩
    | _ => exact hw.elim
  | isl nl n cs =>
    obtain ⟨a, c, us, rfl, _⟩ := hx.isl_inv
    exact ⟨hw.1, .same R (.sc rfl) hw.2⟩
  | own j o n =>
    obtain ⟨q1, ⟨e, nl, cs, hj⟩, hK⟩ := hw
    obtain ⟨b, hb, _, _⟩ := R.blk j e nl cs hj
    have hi := hx.own_inv
    cases nl with
    | true =>
      obtain ⟨rfl, rfl, rfl⟩ := hi.2.2 b hb
      exact ⟨q1, .same R (.sc rfl) hK⟩
    | false =>
      have := hi.2.1 b hb
      subst this
      exact ⟨q1, .same R (.sc rfl) hK⟩
  | agg cs =>
    obtain ⟨n, e, q1, hK⟩ := hw
    obtain ⟨us, rfl, _⟩ := hx.agg_inv
    exact ⟨n, e, ⟨q1, _, rfl⟩, .same R (.sc rfl) hK⟩
  | _ => exact hw.elim
theorem sc_v (R : VRel W0 C h h1) {s : Sem Value} (hw : wSc P s (fun u => scV u = true ∧ K (.sc u) h)) : wSc P s (fun v => VK W0 C K v h1) := wSc_mono (fun v hv => .same R (.sc hv.1) hv.2) hw
theorem ints_of {ns : List Int} {us : List Value} (hr : RVs W0 C (ns.map fun x => AV.sc (.int .u8 x)) us) : us = ns.map (Value.int .u8) := by
  have : (ns.map fun x => AV.sc (.int .u8 x)) = (ns.map (Value.int .u8)).map .sc := by rw [List.map_map]; rfl
  rw [this] at hr
  exact hr.scs
theorem conv_frz (R : VRel W0 C h h1) {j n : Nat} {e : TypeId} {cs : List AV} {u : Value} (hj : h j = some (.cells e false cs)) (hx : RV W0 C (.own j 0 n) u) (hK : K (.isl false n cs) (hdel h j)) : VK W0 C K u h1 := by
  obtain ⟨b, hb, _, hh⟩ := R.blk j e false cs hj
  obtain ⟨us, g1, g2, g3⟩ := hh rfl
  have hu := hx.own_inv.2.1 b hb
  subst hu
  have le := R.frz_le (j := j) g3 (.cells e us)
  refine ⟨_, _, _, hK, le, R.frz g3 hb g1, ?_⟩
  refine .isl (us := us) (.inr (.inr ⟨_, rfl, rfl, Nat.le_refl _, .inr rfl⟩)) rfl g2.1 (fun i u hu => ⟨_, rfl, ?_⟩) (g2.mono le).2
  rw [add_at]
  unfold zr
  rw [if_neg (by show ¬ W0.heap.size + b < W0.heap.size; omega)]
  simp only [Option.isSome_none, Bool.false_eq_true, if_false, Nat.add_sub_cancel_left, Nat.zero_add]
  simp only [Cx.frz, if_true]; exact hu
theorem conv_v (R : VRel W0 C h h1) {src dst : TypeId} {x : AV} {u : Value} (hx : RV W0 C x u) (hw : vConv P src dst x h K) : wConv P W0 src dst u h1 (VK W0 C K) := by
  cases x with
  | sc v =>
    obtain ⟨rfl, hv⟩ := hx.sc_inv
    rcases hw with hw | ⟨e, s, q1, q2, q3, q4, rfl, q5, hK⟩
    · exact .inl ⟨scV_clo hv 2, sc_v R hw⟩
    · refine .inr (.inr (.inl ⟨e, s, q1, q2, q3, q4, rfl, q5, ?_⟩))
      have hr : RVs W0 C ((u8s s).map .sc) (u8s s) := RVs.of_sc fun v hv => by
        simp only [u8s, List.mem_map] at hv
        obtain ⟨q, _, rfl⟩ := hv
        rfl
      rcases hK with hK | hK
      · exact new_own R hr hK
      · exact new_isl R hr hK
  | isl nl n cs =>
    obtain ⟨e, ns, q1, q2, q3, rfl, hl, hK⟩ := hw
    obtain ⟨a, c, us, rfl, ha, _, hr, hz⟩ := hx.isl_inv
    have hus := ints_of hr
    subst hus
    cases a with
    | none =>
      have : n = 0 := by rcases ha with ⟨_, h0, _⟩ | ⟨h0, _⟩ | ⟨_, h0, _⟩ <;> first | exact h0 | cases h0
      subst this
      have := List.eq_nil_of_length_eq_zero hl
      subst this
      refine .inl ⟨rfl, .string (strN []), rfl, fun W => ?_, .same R (.sc rfl) hK⟩
      simp [convert, run_under q1, run_under q2, run_under q3, Conv.bytesToString]
      rfl
    | some a =>
      refine .inr (.inl ⟨e, q1, q2, q3, a, n, c, ns, rfl, ?_, ?_, .same R (.sc rfl) hK⟩)
      · rcases ha with ⟨h0, _⟩ | ⟨_, h0, _⟩ | ⟨ad, h0, hh, _⟩
        · cases h0
        · exact .inl h0
        · cases h0; exact .inr hh
      · have := rds_pts (W0 := W0) (h1 := h1) (a := a) (ns.map (Value.int .u8)) 0 fun k u hu => by
          obtain ⟨ad, he, hz⟩ := hz k u hu
          cases he
          rw [Nat.zero_add]; exact zr_rd R hz
        rwa [List.length_map, hl] at this
  | own j o n =>
    rcases hw with ⟨e, ns, e', nl, cs, q1, q2, q3, hj, hcs, hl, hK⟩ | ⟨rfl, e, e', cs, q1, q2, hj, hK⟩
    case inr =>
      obtain ⟨b, hb, _, hh⟩ := R.blk j e' false cs hj
      obtain ⟨us, g1, g2, g3⟩ := hh rfl
      have hu := hx.own_inv.2.1 b hb
      subst hu
      refine .inr (.inr (.inr ⟨e, b, o, n, e', us, rfl, q1, q2, rfl, g1, ?_⟩))
      rcases hK with hK | ⟨rfl, hK⟩
      · exact .same R hx hK
      · exact conv_frz R hj hx hK
    obtain ⟨b, hb, _, hh⟩ := R.blk j e' nl cs hj
    have hi := hx.own_inv
    cases nl with
    | true =>
      obtain ⟨rfl, rfl, rfl⟩ := hi.2.2 b hb
      have := List.eq_nil_of_length_eq_zero hl
      subst this
      refine .inl ⟨rfl, .string (strN []), rfl, fun W => ?_, .same R (.sc rfl) hK⟩
      simp [convert, run_under q1, run_under q2, run_under q3, Conv.bytesToString]
      rfl
    | false =>
      obtain ⟨us, g1, g2, _⟩ := hh rfl
      have := hi.2.1 b hb
      subst this
      have hr := (g2.drop o).take n
      rw [hcs] at hr
      have hus := ints_of hr
      have hlen : o + n ≤ us.length ∨ n = 0 := by
        have h5 := congrArg List.length hcs
        rw [List.length_map, hl, List.length_take, List.length_drop, g2.1] at h5
        omega
      refine .inr (.inl ⟨e, q1, q2, q3, _, n, n, ns, rfl, .inr rfl, ?_, .same R (.sc rfl) hK⟩)
      rcases hlen with hlen | hlen
      · rw [rds_own g1 n o 0 (by omega), Nat.add_zero, hus]
      · subst hlen
        have := List.eq_nil_of_length_eq_zero hl
        subst this; rfl
  | _ => exact hw.elim
theorem isNil_v (R : VRel W0 C h h1) {a : AV} {u : Value} {q : Bool} (ha : RV W0 C a u) (hq : isNilV h a = some q) : (∃ p n c, u = .slice p n c ∧ p.isNone = q ∧ isSlV a = true) ∨ (∃ p, u = .pointer p ∧ p.isNone = q ∧ isSlV a = false) := by
  cases a with
  | isl nl n cs =>
    obtain ⟨a, c, us, rfl, _, hn, _⟩ := ha.isl_inv
    cases hq
    exact .inl ⟨_, _, _, rfl, hn.symm, rfl⟩
  | own j o n =>
    simp only [isNilV] at hq
    split at hq
    · rename_i e nl cs hj
      cases hq
      obtain ⟨b, hb, _, hh⟩ := R.blk j e _ cs hj
      have hi := ha.own_inv
      cases q with
      | true => obtain ⟨rfl, rfl, rfl⟩ := hi.2.2 b hb; exact .inl ⟨_, _, _, rfl, rfl, rfl⟩
      | false => exact .inl ⟨_, _, _, hi.2.1 b hb, rfl, rfl⟩
    · cases hq
  | op j o =>
    simp only [isNilV] at hq
    split at hq
    · rename_i e cs hj
      cases hq
      obtain ⟨b, hb, hn, hh⟩ := R.blk j e false cs hj
      exact .inr ⟨_, ha.op_inv.2 b hb, rfl, rfl⟩
    · cases hq
  | ip cs o =>
    obtain ⟨ad, us, rfl, _⟩ := ha.ip_inv
    cases hq
    exact .inr ⟨_, rfl, rfl, rfl⟩
  | sc v =>
    obtain ⟨rfl, _⟩ := ha.sc_inv
    cases u with
    | pointer p => cases p with
      | none => cases hq; exact .inr ⟨_, rfl, rfl, rfl⟩
      | some p => cases hq
    | _ => cases hq
  | _ => cases hq
theorem bin_v (R : VRel W0 C h h1) {op : BinOp} {xT : TypeId} {x y : Operand} {a b : AV} {u w : Value} (ha : RV W0 C a u) (hb : RV W0 C b w) (hw : vBin P op xT x y a b h (fun v => K v h)) : wBin P op xT x y u w (fun v => VK W0 C K v h1) := by
  rcases hw with ⟨u', w', rfl, rfl, hw⟩ | ⟨us, ws, rfl, rfl, hw⟩ | ⟨q, e, hq, hbb, hK⟩
  · obtain ⟨rfl, h2⟩ := ha.sc_inv
    obtain ⟨rfl, h3⟩ := hb.sc_inv
    exact .inl ⟨scV_clo h2 2, scV_clo h3 2, sc_v R hw⟩
  · obtain ⟨us', rfl, hr⟩ := ha.agg_inv
    obtain ⟨ws', rfl, hs⟩ := hb.agg_inv
    have key : ∀ {us : List Value} {us' : Array Value}, RVs W0 C (us.map .sc) us'.toList → us' = us.toArray ∧ clo 3 (.agg us') = true := by
      intro us us' hr
      have := hr.scs
      refine ⟨by apply Array.ext'; simpa using this, ?_⟩
      simp only [clo, List.all_eq_true]
      intro v hv
      obtain ⟨i, hi⟩ := List.getElem?_of_mem hv
      have hi' : us[i]? = some v := by rw [← this]; exact hi
      have := hr.2 i (.sc v) v (by rw [List.getElem?_map, hi']; rfl) hi
      exact scV_clo this.sc_inv.2 1
    obtain ⟨rfl, c1⟩ := key hr
    obtain ⟨rfl, c2⟩ := key hs
    exact .inl ⟨c1, c2, sc_v R hw⟩
  · rcases isNil_v R ha hq with ⟨p, n, c, rfl, hp, n3⟩ | ⟨p, rfl, hp, n1⟩
    · rcases hbb with ⟨hs, rfl, hu⟩ | ⟨hs, rfl, hu⟩
      · obtain ⟨a', c', us, rfl, hok, hnl, _⟩ := hb.isl_inv
        cases a' with
        | some a' => cases hnl
        | none =>
          obtain rfl : c' = 0 := by rcases hok with ⟨_, _, h0⟩ | ⟨h0, _⟩ | ⟨_, h0, _⟩ <;> first | exact h0 | cases h0
          refine .inr (.inl ⟨p, n, c, e, rfl, rfl, hu, ?_⟩)
          rw [hp]
          rcases hK with ⟨rfl, hK⟩ | ⟨rfl, hK⟩
          · exact .inl ⟨rfl, .same R (.sc rfl) hK⟩
          · exact .inr ⟨rfl, .same R (.sc rfl) hK⟩
      · exact absurd hs (by rw [n3]; simp)
    · rcases hbb with ⟨hs, rfl, hu⟩ | ⟨hs, rfl, hu⟩
      · exact absurd hs (by rw [n1]; simp)
      · obtain ⟨rfl, _⟩ := hb.sc_inv
        refine .inr (.inr ⟨p, e, rfl, rfl, hu, ?_⟩)
        rw [hp]
        rcases hK with ⟨rfl, hK⟩ | ⟨rfl, hK⟩
        · exact .inl ⟨rfl, .same R (.sc rfl) hK⟩
        · exact .inr ⟨rfl, .same R (.sc rfl) hK⟩
end
end Go.Proofs.AbM
