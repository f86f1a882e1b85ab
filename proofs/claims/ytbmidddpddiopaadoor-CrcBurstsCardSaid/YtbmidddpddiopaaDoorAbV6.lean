/- The machine of values: code, calls down to a depth; soundness. -/
import Derived.Test.YtbmidddpddiopaaDoorAbV5
set_option linter.unusedVariables false
set_option linter.unusedSimpArgs false
namespace Go.Proofs.AbM
open Go.RowKit
section
variable (P : Program) (G : Nat → AV) (A : FuncId → List AV → VH → (AV → VH → Prop) → Prop)
def vops (n : Nat) (ops : Array Oper) : List Oper → (VF → VH → Prop) → VF → VH → Prop
  | [], K, ρ, h => K ρ h
  | o :: rest, K, ρ, h => dstOk n o.dst ∧
    match o.guard with
    | none => vop P G A o ρ h (fun v h' => vops n ops rest K (putV ρ o.dst v) h')
    | some (j, want) => ∃ d t, (ops[j]?).bind (·.dst) = some d ∧ d < n ∧ (ρ d = .sc (.bool t) ∨ (ρ d = .tup [] ∧ t ≠ want)) ∧ (t = want → vop P G A o ρ h (fun v h' => vops n ops rest K (putV ρ o.dst v) h')) ∧ (t ≠ want → vops n ops rest K (putV ρ o.dst (.tup [])) h)
/-- The operations of a region in any order that its edges allow. -/
def vany (n : Nat) (ops : Array Oper) (K : VF → VH → Prop) : Nat → Array Bool → VF → VH → Prop
  | 0, listed, ρ, h => Region.ready .any ops listed = [] ∧ K ρ h
  | fuel + 1, listed, ρ, h => (Region.ready .any ops listed = [] → K ρ h) ∧ ∀ i ∈ Region.ready .any ops listed, ∃ o, ops[i]? = some o ∧ vops P G A n ops [o] (vany n ops K fuel (listed.setIfInBounds i true)) ρ h
def thenV (next : VF → VH → Prop) (Q : Exit → VF → VH → Prop) : Exit → VF → VH → Prop
  | .normal, ρ, h => Gst next ρ h
  | e, ρ, h => Q e ρ h
def inBlockV (id : Nat) (Q : Exit → VF → VH → Prop) : Exit → VF → VH → Prop
  | .exit id', ρ, h => if id' = id then Q .normal ρ h else Q (.exit id') ρ h
  | e, ρ, h => Q e ρ h
def vawp (n : Nat) : Code → (Exit → VF → VH → Prop) → VF → VH → Prop
  | .skip, Q, ρ, h => Q .normal ρ h
  | .region _ ops false, Q, ρ, h => vops P G A n ops ops.toList (Q .normal) ρ h
  | .region _ ops true, Q, ρ, h => P.follows .mixedOrders = true ∧ ((∃ ord, okDraw P ops ord = true ∧ vops P G A n ops (pickO ops ord) (Q .normal) ρ h) ∨ vany P G A n ops (Q .normal) ops.size (Array.replicate ops.size false) ρ h)
  | .seq a b, Q, ρ, h => vawp n a (thenV (vawp n b Q) Q) ρ h
  | .cond c x y, Q, ρ, h => vok G c ∧ ∃ t, evv G ρ c = .sc (.bool t) ∧ (t = true → vawp n x Q ρ h) ∧ (t = false → vawp n y Q ρ h)
  | .block id c, Q, ρ, h => vawp n c (inBlockV id Q) ρ h
  | .loop c, Q, ρ, h => ∃ (I : Nat → VF → VH → Prop) (k : Nat), I k ρ h ∧ ∀ k ρ h, I k ρ h → vawp n c (thenV (fun ρ' h' => ∃ k', k' < k ∧ I k' ρ' h') Q) ρ h
  | .exit id, Q, ρ, h => Q (.exit id) ρ h
  | .ret, Q, ρ, h => Q .ret ρ h
  | _, _, _, _ => False
def resKV : List ResultVar → VF → VH → (List AV → VH → Prop) → Prop
  | [], ρ, h, K => K [] h
  | .tmp t :: rs, ρ, h, K => resKV rs ρ h fun vs h => K (ρ t :: vs) h
  | .cell a t :: rs, ρ, h, K => vLoad P t (ρ a) h fun u h' => resKV rs ρ h' fun vs h'' => K (u :: vs) h''
def oneV : List AV → AV
  | [v] => v
  | vs => .tup vs
def bodyV (rs : List ResultVar) (K : AV → VH → Prop) (e : Exit) (ρ : VF) (h : VH) : Prop :=
  match e with
  | .normal | .ret => resKV P rs ρ h fun vs h => FrK K (oneV vs) h
  | _ => False
def initV (as : List AV) : VF := fun i => as.getD i .junk
end
/-- What a call brings, told of the worlds themselves. -/
def FXV (P : Program) (G : Nat → AV) (f : FuncId) (as : List AV) (h : VH) (K : AV → VH → Prop) : Prop :=
  ∀ (W0 : World) (C : Cx) (h1 : Hp) (us : List Value), GOk W0 G → VRel W0 C h h1 → RVs W0 C as us → FX P W0 f us h1 (VK W0 C K)
def VC (P : Program) (G : Nat → AV) : Nat → FuncId → List AV → VH → (AV → VH → Prop) → Prop
  | 0, _, _, _, _ => False
  | d + 1, f, as, h, K => FXV P G f as h K ∨ ∃ fn c, P.funcs[f]? = some fn ∧ fn.body = some c ∧ (fn.name == "runtime.NumGoroutine") = false ∧ as.length ≤ fn.ntmps ∧ vawp P G (VC P G d) fn.ntmps c (bodyV P fn.results.toList K) (initV as) h
section
variable {P : Program} {W0 : World} {C C' : Cx} {h : VH} {h1 : Hp} {K : AV → VH → Prop} {G : Nat → AV}
def FK (W0 : World) (C : Cx) (K : VF → VH → Prop) : Fr → Hp → Prop := fun ρ1 h1 => ∃ ρ h C', K ρ h ∧ C.le C' ∧ VRel W0 C' h h1 ∧ FV W0 C' ρ ρ1
def QK (W0 : World) (C : Cx) (Q : Exit → VF → VH → Prop) : Exit → Fr → Hp → Prop := fun e => FK W0 C (Q e)
theorem FK.mono {K : VF → VH → Prop} (le : C.le C') {ρ1 : Fr} {h1 : Hp} (hk : FK W0 C' K ρ1 h1) : FK W0 C K ρ1 h1 := by
  obtain ⟨ρ, h, C2, a, b, c, d⟩ := hk; exact ⟨ρ, h, C2, a, le.trans b, c, d⟩
theorem vops_sim {d : Nat} {VA : FuncId → List AV → VH → (AV → VH → Prop) → Prop} (hA : SoundV P W0 VA (AC P W0 d)) (hG : GOk W0 G) {n : Nat} {ops : Array Oper} {K : VF → VH → Prop} : ∀ (os : List Oper) {C : Cx} {ρ : VF} {ρ1 : Fr} {h : VH} {h1 : Hp}, VRel W0 C h h1 → FV W0 C ρ ρ1 → vops P G VA n ops os K ρ h → wops P W0 (AC P W0 d) n ops os (FK W0 C K) ρ1 h1
  | [], C, ρ, ρ1, h, h1, R, F, hw => ⟨ρ, h, C, hw, .refl C, R, F⟩
  | o :: rest, C, ρ, ρ1, h, h1, R, F, hw => by
    have step : vop P G VA o ρ h (fun v h' => vops P G VA n ops rest K (putV ρ o.dst v) h') → wop P W0 (AC P W0 d) o ρ1 h1 (fun v h' => wops P W0 (AC P W0 d) n ops rest (FK W0 C K) (put ρ1 o.dst v) h') := by
      intro hw
      refine wop_mono (AC_mono d) (fun u h1' hk => ?_) (vop_sim hA (AC_mono d) hG R F hw)
      obtain ⟨v, h', C', hK, le, R', hv⟩ := hk
      exact wops_mono (AC_mono d) (fun ρ h hk => hk.mono le) (vops_sim hA hG rest R' ((F.mono le).put hv o.dst) hK)
    obtain ⟨h0, hw⟩ := hw
    refine ⟨h0, ?_⟩
    split at hw
    · rename_i hg; rw [hg]; exact step hw
    · rename_i j want hg
      rw [hg]
      obtain ⟨dd, t, g1, g2, g3, g4, g5⟩ := hw
      have hF := F dd
      have hu : RV W0 C (.tup []) undef := RVs.nil.tupr
      refine ⟨dd, t, g1, g2, ?_, fun e => step (g4 e), fun e => ?_⟩
      · rcases g3 with g3 | ⟨g3, g6⟩
        · rw [g3] at hF; exact .inl hF.sc_inv.1
        · rw [g3] at hF
          obtain ⟨us, hus, hr⟩ := hF.tup_inv
          right
          refine ⟨?_, g6⟩
          rw [hus]
          have : us.toList = [] := List.eq_nil_of_length_eq_zero hr.1.symm
          rw [Array.toList_eq_nil_iff] at this
          rw [this]; rfl
      · exact vops_sim hA hG rest R (F.put hu o.dst) (g5 e)
theorem vany_sim {d : Nat} {VA : FuncId → List AV → VH → (AV → VH → Prop) → Prop} (hA : SoundV P W0 VA (AC P W0 d)) (hG : GOk W0 G) {n : Nat} {ops : Array Oper} {K : VF → VH → Prop} : ∀ (fuel : Nat) (l : Array Bool) {C : Cx} {ρ : VF} {ρ1 : Fr} {h : VH} {h1 : Hp}, VRel W0 C h h1 → FV W0 C ρ ρ1 → vany P G VA n ops K fuel l ρ h → wany P W0 (AC P W0 d) n ops (FK W0 C K) fuel l ρ1 h1
  | 0, l, C, ρ, ρ1, h, h1, R, F, hw => ⟨hw.1, ρ, h, C, hw.2, .refl C, R, F⟩
  | fuel + 1, l, C, ρ, ρ1, h, h1, R, F, hw => by
    refine ⟨fun e => ⟨ρ, h, C, hw.1 e, .refl C, R, F⟩, fun i hi => ?_⟩
    obtain ⟨o, ho, hw⟩ := hw.2 i hi
    refine ⟨o, ho, ?_⟩
    show wops P W0 (AC P W0 d) n ops [o] _ ρ1 h1
    refine wops_mono (AC_mono d) (fun ρ1 h1 hk => ?_) (vops_sim hA hG [o] R F hw)
    obtain ⟨ρ', h', C', hK, le, R', F'⟩ := hk
    exact wany_mono (AC_mono d) (fun _ _ hk => hk.mono le) (vany_sim hA hG fuel _ R' F' hK)
theorem vawp_sim {d : Nat} {VA : FuncId → List AV → VH → (AV → VH → Prop) → Prop} (hA : SoundV P W0 VA (AC P W0 d)) (hG : GOk W0 G) {n : Nat} : ∀ (c : Code) {Q : Exit → VF → VH → Prop} {C : Cx} {ρ : VF} {ρ1 : Fr} {h : VH} {h1 : Hp}, VRel W0 C h h1 → FV W0 C ρ ρ1 → vawp P G VA n c Q ρ h → awp P W0 (AC P W0 d) n c (QK W0 C Q) ρ1 h1
  | .skip, Q, C, ρ, ρ1, h, h1, R, F, hw => ⟨ρ, h, C, hw, .refl C, R, F⟩
  | .region id ops false, Q, C, ρ, ρ1, h, h1, R, F, hw => vops_sim hA hG ops.toList R F hw
  | .region id ops true, Q, C, ρ, ρ1, h, h1, R, F, hw => by
    obtain ⟨hm, ⟨ord, hok, hw⟩ | hw⟩ := hw
    · exact awp_draw ord hm hok (vops_sim hA hG _ R F hw)
    · exact ⟨hm, vany_sim hA hG _ _ R F hw⟩
  | .seq a b, Q, C, ρ, ρ1, h, h1, R, F, hw => by
    have := vawp_sim hA hG a R F hw
    show awp P W0 (AC P W0 d) n a (thenA (awp P W0 (AC P W0 d) n b (QK W0 C Q)) (QK W0 C Q)) ρ1 h1
    refine awp_mono (AC_mono d) a (fun e ρ1 h1 hk => ?_) this
    obtain ⟨ρ', h', C', hQ, le, R', F'⟩ := hk
    cases e with
    | normal =>
      obtain ⟨ρ2, h2, C2, hX, le2, R2, F2⟩ := gst_sim (show Gst (vawp P G VA n b Q) ρ' h' from hQ) R' F'
      exact awp_mono (AC_mono d) b (fun e ρ1 h1 hk => hk.mono (le.trans le2)) (vawp_sim hA hG b R2 F2 hX)
    | exit id => exact ⟨ρ', h', C', hQ, le, R', F'⟩
    | ret => exact ⟨ρ', h', C', hQ, le, R', F'⟩
    | _ => exact ⟨ρ', h', C', hQ, le, R', F'⟩
  | .cond c x y, Q, C, ρ, ρ1, h, h1, R, F, hw => by
    obtain ⟨h2, t, ht, k1, k2⟩ := hw
    obtain ⟨a, b⟩ := F.ev hG h2
    rw [ht] at a
    exact ⟨b, t, a.sc_inv.1, fun e => vawp_sim hA hG x R F (k1 e), fun e => vawp_sim hA hG y R F (k2 e)⟩
  | .block id c, Q, C, ρ, ρ1, h, h1, R, F, hw => by
    have := vawp_sim hA hG c R F hw
    show awp P W0 (AC P W0 d) n c (inBlockA id (QK W0 C Q)) ρ1 h1
    refine awp_mono (AC_mono d) c (fun e ρ1 h1 hk => ?_) this
    obtain ⟨ρ', h', C', hQ, le, R', F'⟩ := hk
    cases e with
    | exit id' =>
      simp only [inBlockV] at hQ
      simp only [inBlockA]
      split at hQ
      · rename_i he; rw [if_pos he]; exact ⟨ρ', h', C', hQ, le, R', F'⟩
      · rename_i he; rw [if_neg he]; exact ⟨ρ', h', C', hQ, le, R', F'⟩
    | _ => exact ⟨ρ', h', C', hQ, le, R', F'⟩
  | .loop c, Q, C, ρ, ρ1, h, h1, R, F, hw => by
    obtain ⟨I, k, h0, hr⟩ := hw
    refine ⟨fun k => FK W0 C (I k), k, ⟨ρ, h, C, h0, .refl C, R, F⟩, fun k ρ1 h1 hk => ?_⟩
    obtain ⟨ρ', h', C', hI, le, R', F'⟩ := hk
    refine awp_mono (AC_mono d) c (fun e ρ1 h1 hk => ?_) (vawp_sim hA hG c R' F' (hr k ρ' h' hI))
    obtain ⟨ρ2, h2, C2, hQ, le2, R2, F2⟩ := hk
    cases e with
    | normal =>
      obtain ⟨ρ3, h3, C3, ⟨k', hlt, hI'⟩, le3, R3, F3⟩ := gst_sim (show Gst _ ρ2 h2 from hQ) R2 F2
      exact ⟨k', hlt, ρ3, h3, C3, hI', (le.trans le2).trans le3, R3, F3⟩
    | _ => exact ⟨ρ2, h2, C2, hQ, le.trans le2, R2, F2⟩
  | .exit id, Q, C, ρ, ρ1, h, h1, R, F, hw => ⟨ρ, h, C, hw, .refl C, R, F⟩
  | .ret, Q, C, ρ, ρ1, h, h1, R, F, hw => ⟨ρ, h, C, hw, .refl C, R, F⟩
  | .rangeFunc _ _ _ _, Q, C, ρ, ρ1, h, h1, R, F, hw => hw.elim
  | .scope _, Q, C, ρ, ρ1, h, h1, R, F, hw => hw.elim
  | .label _, Q, C, ρ, ρ1, h, h1, R, F, hw => hw.elim
  | .goto _, Q, C, ρ, ρ1, h, h1, R, F, hw => hw.elim
  | .refuse _, Q, C, ρ, ρ1, h, h1, R, F, hw => hw.elim
theorem wLoad_here {t : TypeId} {u : Value} {K K' : Value → Hp → Prop} (hw : wLoad P W0 t u h1 K) (hk : ∀ v, K v h1 → K' v h1) : wLoad P W0 t u h1 K' := by
  obtain ⟨ad, he, g, hg, k1, k2⟩ := hw
  exact ⟨ad, he, g, hg, fun e => by obtain ⟨n, cs, a, b, c⟩ := k1 e; exact ⟨n, cs, a, b, hk _ c⟩, fun e => by obtain ⟨v, a, b⟩ := k2 e; exact ⟨v, a, hk _ b⟩⟩
theorem resK_sim {ρ : VF} {ρ1 : Fr} : ∀ (rs : List ResultVar) {C : Cx} {h : VH} {K : List AV → VH → Prop} {K1 : List Value → Prop}, VRel W0 C h h1 → FV W0 C ρ ρ1 → resKV P rs ρ h K →
    (∀ vs us h' C', K vs h' → C.le C' → VRel W0 C' h' h1 → RVs W0 C' vs us → K1 us) → resK P W0 rs ρ1 h1 K1
  | [], C, h, K, K1, R, F, hw, hk => hk [] [] h C hw (.refl C) R RVs.nil
  | .tmp t :: rs, C, h, K, K1, R, F, hw, hk => resK_sim rs R F hw fun vs us h' C' a b c e => hk _ _ h' C' a b c (RVs.cons ((F t).mono b) e)
  | .cell a t :: rs, C, h, K, K1, R, F, hw, hk => by
    refine wLoad_here (load_v R (F a) hw) fun u hu => ?_
    obtain ⟨v, h', C', hK, le, R', hv⟩ := hu
    exact resK_sim rs R' (F.mono le) hK fun vs us h2 C2 a b c e => hk _ _ h2 C2 a (le.trans b) c (RVs.cons (hv.mono b) e)
theorem one_v {vs : List AV} {us : List Value} (hr : RVs W0 C vs us) : RV W0 C (oneV vs) (oneOf us) := by
  match vs, us, hr with
  | [], [], hr => exact hr.tupr
  | [v], [u], hr => exact hr.2 0 v u rfl rfl
  | v :: v2 :: vs, u :: u2 :: us, hr => exact hr.tupr
  | [], _ :: _, hr => exact absurd hr.1 (by simp)
  | _ :: _, [], hr => exact absurd hr.1 (by simp)
  | [_], _ :: _ :: _, hr => exact absurd hr.1 (by simp)
  | _ :: _ :: _, [_], hr => exact absurd hr.1 (by simp)
theorem VC_sound (hG : GOk W0 G) : ∀ d, SoundV P W0 (VC P G d) (AC P W0 d)
  | 0 => fun f as h K hw => hw.elim
  | d + 1 => by
    intro f as h K hw C h1 us R hr
    rcases hw with hx | ⟨fn, c, hf, hb, hn, hl, hw⟩
    · exact .inl (hx W0 C h1 us hG R hr)
    refine .inr ⟨fn, c, hf, hb, hn, by rw [← hr.1]; exact hl, ?_⟩
    have F : FV W0 C (initV as) (initF us) := by
      intro i
      simp only [initV, initF, List.getD_eq_getElem?_getD]
      cases ha : as[i]? with
      | none => exact .junk
      | some a =>
        obtain ⟨u, hu, hv⟩ := hr.get ha
        rw [hu]; exact hv
    refine awp_mono (AC_mono d) c (fun e ρ1 h1' hk => ?_) (vawp_sim (VC_sound hG d) hG c R F hw)
    obtain ⟨ρ, h', C', hQ, le, R', F'⟩ := hk
    have fin : resKV P fn.results.toList ρ h' (fun vs h => FrK K (oneV vs) h) → ∃ vs, resO P W0 fn.results.toList ρ1 h1' vs ∧ VK W0 C K (oneOf vs) h1' := by
      intro hres
      refine resK_res (resK_sim _ R' F' hres fun vs us h2 C2 a b c e => ?_)
      obtain ⟨v, h3, C3, k1, k2, k3, k4⟩ := frk_sim a c (one_v e)
      exact ⟨v, h3, C3, k1, (le.trans b).trans k2, k3, k4⟩
    cases e with
    | normal => exact fin hQ
    | ret => exact fin hQ
    | _ => exact hQ.elim
def C0 : Cx := ⟨0, fun _ => none, fun _ => none⟩
theorem VRel.start : VRel W0 C0 (fun _ => none) [] := ⟨fun _ _ => rfl, fun j x hx => (by cases hx), fun j e nl cs hj => (by cases hj), fun j s p hj => (by cases hj), fun j j' b hj => (by cases hj), fun b x hx => (by cases hx)⟩
end
end Go.Proofs.AbM
