/- The machine of values: regions whose operations leave the heap as it is, with tests that are not decided; blocks that are let stay; variables of the program. -/
import Derived.Test.YtbmidddpddiopaaDoorAbV11
import Derived.MakeChecks
import Derived.LaidMore
import Derived.OpenShut
set_option linter.unusedVariables false
set_option linter.unusedSimpArgs false
namespace Go.Proofs.AbM
open Go.RowKit
section
variable {P : Program} {G : Nat → AV} {A : FuncId → List AV → VH → (AV → VH → Prop) → Prop} {n : Nat} {ops : Array Oper} {h : VH} {K : VF → Prop} {ρ : VF} {rest : List Oper} {op : Op} {type : TypeId} {pos : String} {after : Array Edge} {j d' : Nat} {w : Bool} {Q : Exit → VF → VH → Prop}
theorem vops_of_quiet {KF : VF → VH → Prop} : ∀ {os : List Oper} {ρ : VF}, vopsQ P G A n ops h os (fun ρ' => KF ρ' h) ρ → vops P G A n ops os KF ρ h
  | [], ρ, hw => hw
  | o :: rest, ρ, hw => by
    obtain ⟨v, ⟨hd, hq⟩, hw⟩ := hw
    have ih := vops_of_quiet hw
    refine ⟨hd, ?_⟩
    cases hg : o.guard with
    | none =>
      rw [hg] at hq
      exact hq _ ih
    | some jw =>
      obtain ⟨j, want⟩ := jw
      rw [hg] at hq
      obtain ⟨d, t, h1, h2, h3, k1, k2⟩ := hq
      refine ⟨d, t, h1, h2, h3, fun e => k1 e _ ih, fun e => ?_⟩
      have := k2 e
      subst this
      exact ih
theorem vawp_seqq {id : Nat} {b : Code} (hw : vopsQ P G A n ops h ops.toList (fun ρ' => thenV (vawp P G A n b Q) Q .normal ρ' h) ρ) : vawp P G A n (.seq (.region id ops false) b) Q ρ h := vops_of_quiet (KF := thenV (vawp P G A n b Q) Q .normal) hw
theorem vawp_regq {id : Nat} (hw : vopsQ P G A n ops h ops.toList (fun ρ' => Q .normal ρ' h) ρ) : vawp P G A n (.region id ops false) Q ρ h := vops_of_quiet (KF := Q .normal) hw
/-- What a guarded operation leaves. -/
def gV (c : Bool) (v : AV) : AV := if c = true then v else .tup []
theorem gV_t (v : AV) : gV true v = v := rfl
theorem gV_f (v : AV) : gV false v = .tup [] := rfl
theorem isGdV_g (c x : Bool) : isGdV (gV c (.sc (.bool x))) = true := by cases c <;> rfl
theorem isBV_gt (c x : Bool) : isBV true (gV c (.sc (.bool x))) = (c && x) := by cases c <;> rfl
theorem isBV_gf (c x : Bool) : isBV false (gV c (.sc (.bool x))) = (c && !x) := by cases c <;> rfl
theorem vopsQ_gu {v : AV} (d : Nat) (hd : Nat.ble (d' + 1) n = true) (h1 : dstV ops j = some d) (h2 : Nat.ble (d + 1) n = true) (h3 : isGdV (ρ d) = true) (hq : isBV w (ρ d) = true → ∀ K : AV → VH → Prop, K v h → vop P G A ⟨some d', op, type, pos, after, some (j, w)⟩ ρ h K)
    (hw : vopsQ P G A n ops h rest K (updV ρ d' (gV (isBV w (ρ d)) v))) : vopsQ P G A n ops h (⟨some d', op, type, pos, after, some (j, w)⟩ :: rest) K ρ := by
  rcases isGdV_iff.1 h3 with ⟨c, hc⟩ | hc
  · have hi : isBV w (ρ d) = true ↔ c = w := by
      rw [isBV_iff, hc]
      constructor
      · intro hh; injection hh with hh; injection hh
      · rintro rfl; rfl
    exact ⟨gV (isBV w (ρ d)) v, ⟨Nat.le_of_ble_eq_true hd, d, c, h1, Nat.le_of_ble_eq_true h2, .inl hc, fun e => by
      rw [show gV (isBV w (ρ d)) v = v from if_pos (hi.2 e)]; exact hq (hi.2 e), fun e => if_neg fun hh => e (hi.1 hh)⟩, hw⟩
  · have hi : ¬ isBV w (ρ d) = true := by rw [hc, isBV_u]; decide
    exact ⟨gV (isBV w (ρ d)) v, ⟨Nat.le_of_ble_eq_true hd, d, !w, h1, Nat.le_of_ble_eq_true h2, .inr ⟨hc, by cases w <;> decide⟩, fun e => absurd e (by cases w <;> decide), fun e => if_neg hi⟩, hw⟩
theorem vopsQ_gj (d : Nat) (hd : Nat.ble (d' + 1) n = true) (h1 : dstV ops j = some d) (h2 : Nat.ble (d + 1) n = true) (h3 : ρ d = .tup []) (hw : vopsQ P G A n ops h rest K (updV ρ d' (.tup []))) : vopsQ P G A n ops h (⟨some d', op, type, pos, after, some (j, w)⟩ :: rest) K ρ :=
  ⟨.tup [], ⟨Nat.le_of_ble_eq_true hd, d, !w, h1, Nat.le_of_ble_eq_true h2, .inr ⟨h3, by cases w <;> decide⟩, fun e => absurd e (by cases w <;> decide), fun _ => rfl⟩, hw⟩
theorem vopsQ_pk {x y z : Operand} (hd : Nat.ble (d' + 1) n = true) (h1 : vok G x) (h2 : vok G y) (h3 : vok G z) (hb : isBlV (evv G ρ x) = true) (hw : vopsQ P G A n ops h rest K (updV ρ d' (pkV (evv G ρ x) (evv G ρ y) (evv G ρ z)))) : vopsQ P G A n ops h (⟨some d', .pick x y z, type, pos, after, none⟩ :: rest) K ρ := by
  refine ⟨_, ⟨Nat.le_of_ble_eq_true hd, fun K' hk' => ⟨h1, h2, h3, ?_⟩⟩, hw⟩
  obtain ⟨t, ht⟩ := isBlV_iff.1 hb
  rw [ht] at hk'
  refine ⟨t, ht, fun e => ?_, fun e => ?_⟩ <;> subst e <;> exact hk'
theorem vopsQ_gpk {x y z : Operand} (d : Nat) (hd : Nat.ble (d' + 1) n = true) (h1 : dstV ops j = some d) (h2 : Nat.ble (d + 1) n = true) (h3 : isGdV (ρ d) = true) (k1 : vok G x) (k2 : vok G y) (k3 : vok G z) (hb : isBV w (ρ d) = true → isBlV (evv G ρ x) = true) (hw : vopsQ P G A n ops h rest K (updV ρ d' (gV (isBV w (ρ d)) (pkV (evv G ρ x) (evv G ρ y) (evv G ρ z))))) : vopsQ P G A n ops h (⟨some d', .pick x y z, type, pos, after, some (j, w)⟩ :: rest) K ρ := by
  refine vopsQ_gu d hd h1 h2 h3 (fun e K' hk' => ⟨k1, k2, k3, ?_⟩) hw
  obtain ⟨t, ht⟩ := isBlV_iff.1 (hb e)
  rw [ht] at hk'
  refine ⟨t, ht, fun e => ?_, fun e => ?_⟩ <;> subst e <;> exact hk'
/-- A branch, not looked into as long as its test is open. -/
def lkC (X : VF → VH → Prop) (ρ : VF) (h : VH) : Prop := X ρ h
theorem lkC_out {X : VF → VH → Prop} (hk : X ρ h) : lkC X ρ h := hk
theorem vawp_cond_g {c : Operand} {x y : Code} : vawp P G A n (.cond c x y) Q ρ h = (vok G c ∧ isBlV (evv G ρ c) = true ∧ if isBV true (evv G ρ c) = true then lkC (vawp P G A n x Q) ρ h else lkC (vawp P G A n y Q) ρ h) := vawp_cond_ite
/-! ### and, or -/
theorem pk_and (c x : Bool) : pkV (.sc (.bool c)) (gV c (.sc (.bool x))) (.sc (.bool false)) = .sc (.bool (c && x)) := by cases c <;> rfl
theorem pk_or (c x : Bool) : pkV (.sc (.bool c)) (.sc (.bool true)) (gV (!c) (.sc (.bool x))) = .sc (.bool (c || x)) := by cases c <;> rfl
theorem pk_gand (b c x : Bool) : gV b (pkV (gV b (.sc (.bool c))) (gV (b && c) (.sc (.bool x))) (.sc (.bool false))) = gV b (.sc (.bool (c && x))) := by cases b <;> cases c <;> rfl
theorem pk_gor (b c x : Bool) : gV b (pkV (gV b (.sc (.bool c))) (.sc (.bool true)) (gV (b && !c) (.sc (.bool x)))) = gV b (.sc (.bool (c || x))) := by cases b <;> cases c <;> rfl
theorem pk_orn (c x : Bool) : pkV (.sc (.bool (!c))) (.sc (.bool true)) (gV c (.sc (.bool x))) = .sc (.bool (!c || x)) := by cases c <;> rfl
theorem pk_gorn (b c x : Bool) : gV b (pkV (gV b (.sc (.bool (!c)))) (.sc (.bool true)) (gV (b && c) (.sc (.bool x)))) = gV b (.sc (.bool (!c || x))) := by cases b <;> cases c <;> rfl
/-! ### A block that is let stay, by a pointer -/
theorem Gst.frzp {X : VF → VH → Prop} (i j : Nat) {e : TypeId} {cs : List AV} (hj : h j = some (.cells e false cs)) (hi : ρ i = .op j 0) (hX : Gst X (updV ρ i (.ip cs 0)) (hdel h j)) : Gst X ρ h := by
  refine .frz j hj (fun k => ?_) hX
  unfold updV
  split
  · rename_i hk; subst hk; rw [hi]; exact .op 0 rfl
  · exact .refl _
end
/-! ### Variables of the program -/
theorem trod_at {P : Program} {W : World} {H : Type} {enc : TypeId × Value → H} {sp : Nat → Bool} {held : Bool} {fuel : Nat} {t e : TypeId} {k : IntKind} {m : Nat} {cs : List Value} {xs : List Int} {p : List MemPlace} (ht : P.underlying t = some (.array m e)) (he : P.underlying e = some (.int k)) (hc : P.cellsOf e = 1)
    (hd : DataW.trod enc P W 0 sp held fuel t cs = some (.agg (xs.map fun x => .lit (.int k x)), p)) : ∀ (i : Nat) (x : Int), xs[i]? = some x → cs[i]? = some (.int k x) := by
  obtain ⟨ys, n, rfl, hx, hl, hn, hel⟩ := DataW.trod_array ht hd
  simp only [Prod.mk.injEq, DataW.agg.injEq] at hx
  intro i x hxi
  have hlen : ys.length = xs.length := by have := congrArg List.length hx.1; simpa using this.symm
  have hi : i < xs.length := (List.getElem?_eq_some_iff.1 hxi).1
  have h1 := hel i (by omega)
  rw [List.getElem?_eq_getElem (by omega), hc, Nat.mul_one] at h1
  have h2 := congrArg (fun l => l[i]?) hx.1
  simp only [List.getElem?_map, hxi, Option.map_some, List.getElem?_eq_getElem (show i < ys.length by omega)] at h2
  have h2 : DataW.lit (.int k x) = ys[i].1 := Option.some.inj h2
  generalize ys[i] = y at h1 h2
  have h3 := h1
  cases hd1 : (cs.drop i).take 1 with
  | nil =>
    rw [hd1] at h3
    cases n with
    | zero => simp [DataW.trod] at h3
    | succ n => simp [DataW.trod, he] at h3
  | cons v r =>
    have hr : r = [] := by
      have := congrArg List.length hd1
      simp at this
      exact List.eq_nil_of_length_eq_zero (by omega)
    subst hr
    rw [hd1] at h3
    obtain ⟨q, e1, e2, _⟩ := DataW.trod_int he h3
    rw [e2] at h2
    have hq : q = x := by injection h2 with h2; injection h2 with _ h2; exact h2.symm
    subst hq
    have hv : v = .int k q := by simpa using e1
    subst hv
    have := congrArg (fun l => l[0]?) hd1
    simpa using this
theorem laid_get {P : Program} {W : World} : ∀ {laid : List (String × DataW Unit)} {ps : List MemPlace}, DataW.LaidVars P W laid ps → ∀ {n : String} {d : DataW Unit}, (n, d) ∈ laid →
    ∃ g t cs fuel p, P.globalNamed n = some g ∧ (P.globals[g]?).map (·.type) = some t ∧ W.var? P n = some cs ∧ DataW.trod (fun _ => ()) P W 0 (fun _ => true) false fuel t cs.toList = some (d, p)
  | [], ps, _, n, d, hm => by cases hm
  | (n', d') :: r, ps, hl, n, d, hm => by
    obtain ⟨g, t, cs, fuel, p, q, h1, h2, h3, h4, h5, _⟩ := hl
    rcases List.mem_cons.1 hm with he | he
    · cases he; exact ⟨g, t, cs, fuel, p, h1, h2, h3, h4⟩
    · exact laid_get h5 he
/-- A table of numbers that is listed stands in its variable. -/
theorem laid_rv {P : Program} {W : World} {laid : List (String × DataW Unit)} (hL : laidMetH P laid W) (hpl : (laid.all fun x => x.2.handleName?.isNone) = true) {n : String} {xs : List Int} {k : IntKind} {g t e m : Nat} (hm : (n, DataW.agg (xs.map fun x => .lit (.int k x))) ∈ laid) (hg : P.globalNamed n = some g) (ht : (P.globals[g]?).map (·.type) = some t) (hu : P.underlying t = some (.array m e)) (he : P.underlying e = some (.int k)) (hc : P.cellsOf e = 1) :
    g < W.heap.size ∧ ∀ C, RV W C (.ip (xs.map (ivI k)) 0) (.pointer (some ⟨g, 0, none⟩)) := by
  rw [MakeChecks.laidMetH_plain _ _ _ hpl] at hL
  obtain ⟨ps, hl, _⟩ := hL
  obtain ⟨g', t', cs, fuel, p, h1, h2, h3, h4⟩ := laid_get hl hm
  rw [hg] at h1; cases h1
  rw [ht] at h2; cases h2
  have hcell := fun i => World.var?_cell hg h3 i
  have hgs : g < W.heap.size := by
    simp only [World.var?, hg, Option.bind_some] at h3
    split at h3
    · rename_i hh; exact (Array.getElem?_eq_some_iff.1 hh).1
    · cases h3
  refine ⟨hgs, fun C => ?_⟩
  have key : ∀ (i : Nat) (u : Value), (xs.map fun x => Value.int k x)[i]? = some u → zr W C ((⟨g, 0, none⟩ : Addr).add i) = some u := by
    intro i u hu'
    rw [List.getElem?_map] at hu'
    obtain ⟨x, hx, rfl⟩ := Option.map_eq_some_iff.1 hu'
    have hc1 := trod_at hu he hc h4 i x hx
    have e1 : (⟨g, 0, none⟩ : Addr).add i = ⟨g, i, none⟩ := by rw [add_at, Nat.zero_add]
    rw [e1]
    unfold zr
    rw [if_pos hgs, hcell i]
    have : cs[i]? = some (.int k x) := by simpa using hc1
    rw [this]; rfl
  have := RV.ip (W0 := W) (C := C) (cs := xs.map (ivI k)) (off := 0) (ad := ⟨g, 0, none⟩) (us := xs.map fun x => Value.int k x) (by simp) key (fun i c u h1 h2 => by
    rw [List.getElem?_map] at h1 h2
    obtain ⟨x, hx, rfl⟩ := Option.map_eq_some_iff.1 h1
    rw [hx] at h2
    cases h2
    rw [ivI_eq]; exact .sc rfl)
  have e0 : (⟨g, 0, none⟩ : Addr).add 0 = ⟨g, 0, none⟩ := by rw [add_at]
  rwa [e0] at this
end Go.Proofs.AbM
