/- The machine of values: calls and code; that the abstract machine follows it. -/
import Derived.Test.YtbmidddpddiopaaDoorAbV4
set_option linter.unusedVariables false
set_option linter.unusedSimpArgs false
namespace Go.Proofs.AbM
open Go.RowKit
/-- What holds where nothing is done but that own rows are kept as they are from now on, let go, or begun. -/
inductive FzV (j : Nat) (nl : Bool) (cs : List AV) : AV → AV → Prop
  | refl (v : AV) : FzV j nl cs v v
  | own (n : Nat) : FzV j nl cs (.own j 0 n) (.isl nl n cs)
  | op (off : Nat) : nl = false → FzV j nl cs (.op j off) (.ip cs off)
  | agg {xs ys : List AV} : xs.length = ys.length → (∀ (i : Nat) (c c' : AV), xs[i]? = some c → ys[i]? = some c' → FzV j nl cs c c') → FzV j nl cs (.agg xs) (.agg ys)
  | tup {xs ys : List AV} : xs.length = ys.length → (∀ (i : Nat) (c c' : AV), xs[i]? = some c → ys[i]? = some c' → FzV j nl cs c c') → FzV j nl cs (.tup xs) (.tup ys)
  | isl {b : Bool} {n : Nat} {xs ys : List AV} : xs.length = ys.length → (∀ (i : Nat) (c c' : AV), xs[i]? = some c → ys[i]? = some c' → FzV j nl cs c c') → FzV j nl cs (.isl b n xs) (.isl b n ys)
  | ip {off : Nat} {xs ys : List AV} : xs.length = ys.length → (∀ (i : Nat) (c c' : AV), xs[i]? = some c → ys[i]? = some c' → FzV j nl cs c c') → FzV j nl cs (.ip xs off) (.ip ys off)
/-- .. in a block. -/
inductive FzB (j : Nat) (nl : Bool) (cs : List AV) : Option VB → Option VB → Prop
  | refl (o : Option VB) : FzB j nl cs o o
  | cells {e : TypeId} {b : Bool} {xs ys : List AV} : xs.length = ys.length → (∀ (i : Nat) (c c' : AV), xs[i]? = some c → ys[i]? = some c' → FzV j nl cs c c') → FzB j nl cs (some (.cells e b xs)) (some (.cells e b ys))
inductive Gst (X : VF → VH → Prop) : VF → VH → Prop
  | now {ρ : VF} {h : VH} : X ρ h → Gst X ρ h
  | frz {ρ ρ' : VF} {h : VH} (j : Nat) {e : TypeId} {nl : Bool} {cs : List AV} : h j = some (.cells e nl cs) → (∀ i, FzV j nl cs (ρ i) (ρ' i)) → Gst X ρ' (hdel h j) → Gst X ρ h
  | frzh {ρ ρ' : VF} {h h' : VH} (j : Nat) {e : TypeId} {nl : Bool} {cs : List AV} : h j = some (.cells e nl cs) → (∀ i, FzV j nl cs (ρ i) (ρ' i)) → (∀ i, FzB j nl cs (hdel h j i) (h' i)) → Gst X ρ' h' → Gst X ρ h
  | drop {ρ : VF} {h : VH} (j : Nat) : Gst X ρ (hdel h j) → Gst X ρ h
  | mat {ρ : VF} {h : VH} (i : Nat) (e : TypeId) : ρ i = .isl true 0 [] → (∀ j, h j = none → Gst X (updV ρ i (.own j 0 0)) (hset h j (.cells e true []))) → Gst X ρ h
inductive FrK (K : AV → VH → Prop) : AV → VH → Prop
  | now {v : AV} {h : VH} : K v h → FrK K v h
  | frz {v v' : AV} {h : VH} (j : Nat) {e : TypeId} {nl : Bool} {cs : List AV} : h j = some (.cells e nl cs) → FzV j nl cs v v' → FrK K v' (hdel h j) → FrK K v h
  | frzh {v v' : AV} {h h' : VH} (j : Nat) {e : TypeId} {nl : Bool} {cs : List AV} : h j = some (.cells e nl cs) → FzV j nl cs v v' → (∀ i, FzB j nl cs (hdel h j i) (h' i)) → FrK K v' h' → FrK K v h
  | drop {v : AV} {h : VH} (j : Nat) : FrK K v (hdel h j) → FrK K v h
section
variable {P : Program} {W0 : World} {C C' : Cx} {h : VH} {h1 : Hp} {K : AV → VH → Prop}
theorem fz_sim0 {j b : Nat} {nl : Bool} {cs : List AV} (le : C.le C') (hb : C.L j = some (b, nl)) (hf : nl = false → ∃ e us, C'.Z b = some (.cells e us) ∧ RVs W0 C' cs us) (ht : nl = true → cs = []) : ∀ {v v' : AV} {u : Value}, FzV j nl cs v v' → RV W0 C v u → RV W0 C' v' u := by
  have hz : ∀ {us : List Value} {e : TypeId}, C'.Z b = some (.cells e us) → ∀ (i : Nat) (u : Value), us[i]? = some u → zr W0 C' ((⟨W0.heap.size + b, 0, none⟩ : Addr).add i) = some u := by
    intro us e hz i u hu
    rw [add_at]
    unfold zr
    rw [if_neg (by show ¬ W0.heap.size + b < W0.heap.size; omega)]
    simp only [Option.isSome_none, Bool.false_eq_true, if_false, Nat.add_sub_cancel_left, Nat.zero_add]
    rw [hz]; exact hu
  intro v v' u hfz
  induction hfz generalizing u with
  | refl v => exact fun h => h.mono le
  | own n =>
    intro h
    have hi := h.own_inv
    cases nl with
    | true =>
      obtain ⟨rfl, _, rfl⟩ := hi.2.2 b hb
      have := ht rfl
      subst this
      exact .isl (us := []) (.inl ⟨rfl, rfl, rfl⟩) rfl rfl (fun i u hu => by simp at hu) (fun i c u g1 g2 => by simp at g2)
    | false =>
      have := hi.2.1 b hb
      subst this
      obtain ⟨e, us, g1, g2⟩ := hf rfl
      exact .isl (.inr (.inr ⟨_, rfl, rfl, Nat.le_refl _, .inr rfl⟩)) rfl g2.1 (fun i u hu => ⟨_, rfl, hz g1 i u hu⟩) g2.2
  | op off hnl =>
    intro h
    subst hnl
    have := h.op_inv.2 b hb
    subst this
    obtain ⟨e, us, g1, g2⟩ := hf rfl
    have k : RV W0 C' (.ip cs off) (.pointer (some ((⟨W0.heap.size + b, 0, none⟩ : Addr).add off))) := .ip g2.1 (hz g1) g2.2
    rwa [add_at, Nat.zero_add] at k
  | agg hl _ ih =>
    intro h
    obtain ⟨us, rfl, hr⟩ := h.agg_inv
    refine .agg (by rw [← hl]; simpa using hr.1) fun i c' u g1 g2 => ?_
    have hlt := (List.getElem?_eq_some_iff.1 g1).1
    have g3 := List.getElem?_eq_getElem (show i < _ by rw [hl]; exact hlt)
    exact ih i _ c' g3 g1 (hr.2 i _ u g3 (by simpa using g2))
  | tup hl _ ih =>
    intro h
    obtain ⟨us, rfl, hr⟩ := h.tup_inv
    refine .tup (by rw [← hl]; simpa using hr.1) fun i c' u g1 g2 => ?_
    have hlt := (List.getElem?_eq_some_iff.1 g1).1
    have g3 := List.getElem?_eq_getElem (show i < _ by rw [hl]; exact hlt)
    exact ih i _ c' g3 g1 (hr.2 i _ u g3 (by simpa using g2))
  | isl hl _ ih =>
    intro h
    obtain ⟨a, c, us, rfl, k1, k2, hr, k4⟩ := h.isl_inv
    refine .isl k1 k2 (by rw [← hl]; exact hr.1) (fun i u hu => by obtain ⟨ad, a1, a2⟩ := k4 i u hu; exact ⟨ad, a1, zr_mono le a2⟩) fun i c' u g1 g2 => ?_
    have hlt := (List.getElem?_eq_some_iff.1 g1).1
    have g3 := List.getElem?_eq_getElem (show i < _ by rw [hl]; exact hlt)
    exact ih i _ c' g3 g1 (hr.2 i _ u g3 g2)
  | ip hl _ ih =>
    intro h
    obtain ⟨ad, us, rfl, hr, k4⟩ := h.ip_inv
    refine .ip (by rw [← hl]; exact hr.1) (fun i u hu => zr_mono le (k4 i u hu)) fun i c' u g1 g2 => ?_
    have hlt := (List.getElem?_eq_some_iff.1 g1).1
    have g3 := List.getElem?_eq_getElem (show i < _ by rw [hl]; exact hlt)
    exact ih i _ c' g3 g1 (hr.2 i _ u g3 g2)
theorem fz_sim (R : VRel W0 C h h1) {j : Nat} {e : TypeId} {nl : Bool} {cs : List AV} (hj : h j = some (.cells e nl cs)) : ∃ C', C.le C' ∧ VRel W0 C' (hdel h j) h1 ∧ ∀ {v v' : AV} {u : Value}, FzV j nl cs v v' → RV W0 C v u → RV W0 C' v' u := by
  obtain ⟨b, hb, hn, hh⟩ := R.blk j e nl cs hj
  cases nl with
  | true => exact ⟨C.drop j, C.drop_le j, R.drop j, fz_sim0 (C.drop_le j) hb (fun e => by cases e) hn⟩
  | false =>
    obtain ⟨us, g1, g2, g3⟩ := hh rfl
    have le := R.frz_le (j := j) g3 (.cells e us)
    exact ⟨_, le, R.frz g3 hb g1, fz_sim0 le hb (fun _ => ⟨e, us, by simp [Cx.frz], g2.mono le⟩) (fun e => by cases e)⟩
theorem fzh_sim (R : VRel W0 C h h1) {j : Nat} {e : TypeId} {nl : Bool} {cs : List AV} {h' : VH} (hj : h j = some (.cells e nl cs)) (hf : ∀ i, FzB j nl cs (hdel h j i) (h' i)) : ∃ C', C.le C' ∧ VRel W0 C' h' h1 ∧ ∀ {v v' : AV} {u : Value}, FzV j nl cs v v' → RV W0 C v u → RV W0 C' v' u := by
  obtain ⟨C', le, R1, k⟩ := fz_sim R hj
  refine ⟨C', le, ?_, k⟩
  have hs : ∀ i, (h' i).isSome = (hdel h j i).isSome := fun i => by
    have := hf i
    revert this
    generalize hdel h j i = x
    generalize h' i = y
    intro hh
    cases hh <;> rfl
  refine ⟨fun i hi => ?_, fun i x hx => ?_, fun i e' nl' ys hi => ?_, fun i s p hi => ?_, R1.inj, R1.fz⟩
  · have := R1.lt i hi
    have h2 := hs i
    rw [this] at h2
    cases hh : h' i with
    | none => rfl
    | some y => rw [hh] at h2; cases h2
  · obtain ⟨a, b⟩ := R1.dom i x hx
    exact ⟨a, by rw [hs]; exact b⟩
  · have hfi := hf i
    rw [hi] at hfi
    generalize hx : hdel h j i = x at hfi
    cases hfi with
    | refl => exact R1.blk i e' nl' ys hx
    | @cells _ _ xs _ hl hp =>
      obtain ⟨b, k1, k2, k3⟩ := R1.blk i e' nl' xs hx
      have hij : i ≠ j := by rintro rfl; rw [hdel_at] at hx; cases hx
      have hx0 := hx
      rw [hdel_ne _ hij] at hx0
      obtain ⟨b0, q1, q2, q3⟩ := R.blk i e' nl' xs hx0
      have hbb : b = b0 := by
        rcases le.l i (R.dom i _ q1).1 with hh | hh
        · rw [k1, q1] at hh; cases hh; rfl
        · rw [k1] at hh; cases hh
      subst hbb
      refine ⟨b, k1, fun hn => ?_, fun hn => ?_⟩
      · have := k2 hn
        subst this
        exact List.eq_nil_of_length_eq_zero hl.symm
      · obtain ⟨us, g1, g2, g3⟩ := k3 hn
        obtain ⟨us', f1, f2, _⟩ := q3 hn
        rw [g1] at f1; cases f1
        refine ⟨us, g1, ⟨hl.symm.trans f2.1, fun r c u h2 h3 => ?_⟩, g3⟩
        have hlt : r < xs.length := by rw [hl]; exact (List.getElem?_eq_some_iff.1 h2).1
        exact k (hp r _ c (List.getElem?_eq_getElem hlt) h2) (f2.2 r _ u (List.getElem?_eq_getElem hlt) h3)
  · have hfi := hf i
    rw [hi] at hfi
    generalize hx : hdel h j i = x at hfi
    cases hfi with
    | refl => exact R1.itr i s p hx
theorem gst_sim {X : VF → VH → Prop} {ρ : VF} {ρ1 : Fr} (hg : Gst X ρ h) : ∀ {C : Cx}, VRel W0 C h h1 → FV W0 C ρ ρ1 → ∃ ρ' h' C', X ρ' h' ∧ C.le C' ∧ VRel W0 C' h' h1 ∧ FV W0 C' ρ' ρ1 := by
  induction hg with
  | now hx => exact fun {C} R F => ⟨_, _, C, hx, .refl C, R, F⟩
  | frz j hj hf _ ih =>
    intro C R F
    obtain ⟨C1, le, R1, k⟩ := fz_sim R hj
    obtain ⟨ρ', h', C', a, b, c, d⟩ := ih R1 fun i => k (hf i) (F i)
    exact ⟨ρ', h', C', a, le.trans b, c, d⟩
  | frzh j hj hf hb _ ih =>
    intro C R F
    obtain ⟨C1, le, R1, k⟩ := fzh_sim R hj hb
    obtain ⟨ρ', h', C', a, b, c, d⟩ := ih R1 fun i => k (hf i) (F i)
    exact ⟨ρ', h', C', a, le.trans b, c, d⟩
  | drop j _ ih =>
    intro C R F
    obtain ⟨ρ', h', C', a, b, c, d⟩ := ih (R.drop j) (F.mono (C.drop_le j))
    exact ⟨ρ', h', C', a, (C.drop_le j).trans b, c, d⟩
  | @mat ρ h i e hi _ ih =>
    intro C R F
    have hu := F i
    rw [hi] at hu
    obtain ⟨a, c, us, he, hok, hnl, _⟩ := hu.isl_inv
    have le := C.new_le (0, true)
    have hN := R.lt _ (Nat.le_refl _)
    have he' : ρ1 i = .slice none 0 0 := by
      rw [he]
      rcases hok with ⟨rfl, _, rfl⟩ | ⟨rfl, _⟩ | ⟨_, rfl, _⟩ <;> first | rfl | cases hnl
    obtain ⟨ρ', h', C', k1, k2, k3, k4⟩ := ih C.N hN (R.mat e) (by
      intro i'
      simp only [updV]
      split
      · rename_i hh; subst hh
        rw [he']
        refine .own (Nat.lt_succ_self _) rfl (fun b hb => ?_) fun b hb => ⟨rfl, rfl, rfl⟩
        rw [Cx.new_at] at hb; cases hb
      · exact (F i').mono le)
    exact ⟨ρ', h', C', k1, le.trans k2, k3, k4⟩
theorem frk_sim {v : AV} (hg : FrK K v h) : ∀ {C : Cx} {u : Value}, VRel W0 C h h1 → RV W0 C v u → VK W0 C K u h1 := by
  induction hg with
  | now hx => exact fun R F => .same R F hx
  | frz j hj hf _ ih =>
    intro C u R F
    obtain ⟨C1, le, R1, k⟩ := fz_sim R hj
    obtain ⟨v', h', C', a, b, c, d⟩ := ih R1 (k hf F)
    exact ⟨v', h', C', a, le.trans b, c, d⟩
  | frzh j hj hf hb _ ih =>
    intro C u R F
    obtain ⟨C1, le, R1, k⟩ := fzh_sim R hj hb
    obtain ⟨v', h', C', a, b, c, d⟩ := ih R1 (k hf F)
    exact ⟨v', h', C', a, le.trans b, c, d⟩
  | drop j _ ih =>
    intro C u R F
    obtain ⟨v', h', C', a, b, c, d⟩ := ih (R.drop j) (F.mono (C.drop_le j))
    exact ⟨v', h', C', a, (C.drop_le j).trans b, c, d⟩
/-- All that lives, kept for the time of a call. -/
noncomputable def Cx.look (C : Cx) (h1 : Hp) : Cx := by
  classical
  exact ⟨C.N, fun _ => none, fun b => if (∃ j, C.L j = some (b, false)) ∨ C.Z b ≠ none then h1[b]? else none⟩
theorem look_le (R : VRel W0 C h h1) : C.le (C.look h1) := ⟨Nat.le_refl _, fun _ _ => .inr rfl, fun b x hx => by
  classical
  simp only [Cx.look]
  rw [if_pos (.inr (by rw [hx]; simp))]
  exact R.fz b x hx⟩
theorem look_rel (R : VRel W0 C h h1) : VRel W0 (C.look h1) (fun _ => none) h1 := by
  classical
  refine ⟨fun _ _ => rfl, fun j x hx => by simp [Cx.look] at hx, fun j e nl cs hj => (by cases hj), fun j s p hj => (by cases hj), fun j j' b hj => by simp [Cx.look] at hj, fun b x hx => ?_⟩
  simp only [Cx.look] at hx
  split at hx
  · exact hx
  · cases hx
theorem look_at {j b : Nat} (hb : C.L j = some (b, false)) : (C.look h1).Z b = h1[b]? := by
  classical
  simp only [Cx.look]
  rw [if_pos (.inl ⟨j, hb⟩)]
theorem bz_sim (R : VRel W0 C h h1) : ∀ {v v' : AV}, Bz h v v' → ∀ {u : Value}, RV W0 C v u → RV W0 (C.look h1) v' u := by
  have le := look_le R
  have hz : ∀ {j b : Nat} {us : List Value} {e : TypeId}, C.L j = some (b, false) → h1[b]? = some (.cells e us) → ∀ (i : Nat) (u : Value), us[i]? = some u → zr W0 (C.look h1) ((⟨W0.heap.size + b, 0, none⟩ : Addr).add i) = some u := by
    intro j b us e hb hz i u hu
    rw [add_at]
    unfold zr
    rw [if_neg (by show ¬ W0.heap.size + b < W0.heap.size; omega)]
    simp only [Option.isSome_none, Bool.false_eq_true, if_false, Nat.add_sub_cancel_left, Nat.zero_add]
    rw [look_at hb, hz]; exact hu
  intro v v' hb
  induction hb with
  | refl v => exact fun h => h.mono le
  | @own j n e nl cs cs' hj hl _ ih =>
    intro u h
    obtain ⟨b, hb, hn, hh⟩ := R.blk j e nl cs hj
    have hi := h.own_inv
    cases nl with
    | true =>
      obtain ⟨rfl, _, rfl⟩ := hi.2.2 b hb
      have := hn rfl
      subst this
      have : cs' = [] := List.eq_nil_of_length_eq_zero hl.symm
      subst this
      exact .isl (us := []) (.inl ⟨rfl, rfl, rfl⟩) rfl rfl (fun i u hu => by simp at hu) (fun i c u g1 g2 => by simp at g2)
    | false =>
      have := hi.2.1 b hb
      subst this
      obtain ⟨us, g1, g2, g3⟩ := hh rfl
      refine .isl (.inr (.inr ⟨_, rfl, rfl, Nat.le_refl _, .inr rfl⟩)) rfl (by rw [← hl]; exact g2.1) (fun i u hu => ⟨_, rfl, hz hb g1 i u hu⟩) fun i c' u k1 k2 => ?_
      have hlt := (List.getElem?_eq_some_iff.1 k1).1
      have k3 := List.getElem?_eq_getElem (show i < cs.length by rw [hl]; exact hlt)
      exact ih i _ c' k3 k1 (g2.2 i _ u k3 k2)
  | @cut j off n e cs cs' hj hc =>
    intro u h
    obtain ⟨b, hb, hn, hh⟩ := R.blk j e false cs hj
    have := h.own_inv.2.1 b hb
    subst this
    obtain ⟨us, g1, g2, g3⟩ := hh rfl
    have hlen : ∀ i c', cs'[i]? = some c' → ∃ u, us[off + i]? = some u ∧ RV W0 (C.look h1) c' u := fun i c' hi => by
      have k := hc i c' hi
      have hlt := (List.getElem?_eq_some_iff.1 k).1
      have k2 := List.getElem?_eq_getElem (show off + i < us.length by rw [← g2.1]; exact hlt)
      exact ⟨_, k2, (g2.2 _ _ _ k k2).mono le⟩
    have hl2 : cs'.length = ((us.drop off).take cs'.length).length := by
      rw [List.length_take, List.length_drop]
      rcases Nat.eq_zero_or_pos cs'.length with h0 | h0
      · omega
      · obtain ⟨w, hw, _⟩ := hlen (cs'.length - 1) _ (List.getElem?_eq_getElem (by omega))
        have := (List.getElem?_eq_some_iff.1 hw).1
        omega
    refine .isl (us := (us.drop off).take cs'.length) (.inr (.inr ⟨_, rfl, rfl, Nat.le_refl _, .inr rfl⟩)) rfl hl2 (fun i u hu => ⟨_, rfl, ?_⟩) fun i c' u k1 k2 => ?_
    · rw [List.getElem?_take] at hu
      split at hu
      · rw [List.getElem?_drop] at hu
        have := hz hb g1 (off + i) u hu
        rw [add_at, Nat.zero_add] at this
        rw [add_at]; exact this
      · cases hu
    · obtain ⟨w, hw, hr⟩ := hlen i c' k1
      rw [List.getElem?_take] at k2
      split at k2
      · rw [List.getElem?_drop, hw] at k2
        cases k2; exact hr
      · cases k2
  | @op j off e cs cs' hj hl _ ih =>
    intro u h
    obtain ⟨b, hb, hn, hh⟩ := R.blk j e false cs hj
    have := h.op_inv.2 b hb
    subst this
    obtain ⟨us, g1, g2, g3⟩ := hh rfl
    have k : RV W0 (C.look h1) (.ip cs' off) (.pointer (some ((⟨W0.heap.size + b, 0, none⟩ : Addr).add off))) := .ip (by rw [← hl]; exact g2.1) (hz hb g1) fun i c' u k1 k2 => by
      have hlt := (List.getElem?_eq_some_iff.1 k1).1
      have k3 := List.getElem?_eq_getElem (show i < cs.length by rw [hl]; exact hlt)
      exact ih i _ c' k3 k1 (g2.2 i _ u k3 k2)
    rwa [add_at, Nat.zero_add] at k
theorem look_back (R : VRel W0 C h h1) {h1' : Hp} {h' : VH} (le : (C.look h1).le C') (R' : VRel W0 C' h' h1') : C.le ⟨C'.N, C.L, C.Z⟩ ∧ VRel W0 ⟨C'.N, C.L, C.Z⟩ h h1' := by
  have hN : C.N ≤ C'.N := le.n
  have hle : C.le ⟨C'.N, C.L, C.Z⟩ := ⟨hN, fun _ _ => .inl rfl, fun _ _ h => h⟩
  refine ⟨hle, fun j hj => R.lt j (Nat.le_trans hN hj), fun j x hx => ⟨Nat.lt_of_lt_of_le (R.dom j x hx).1 hN, (R.dom j x hx).2⟩, fun j e nl cs hj => ?_, fun j s p hj => ?_, R.inj, fun b x hx => R'.fz b x (le.z b x ((look_le R).z b x hx))⟩
  · obtain ⟨b, k1, k2, k3⟩ := R.blk j e nl cs hj
    refine ⟨b, k1, k2, fun hf => ?_⟩
    subst hf
    obtain ⟨us, g1, g2, g3⟩ := k3 rfl
    exact ⟨us, R'.fz b _ (le.z b _ (by rw [look_at k1]; exact g1)), g2.mono hle, g3⟩
  · obtain ⟨b, k1, k2, k3⟩ := R.itr j s p hj
    exact ⟨b, k1, R'.fz b _ (le.z b _ (by rw [look_at k1]; exact k2)), k3⟩
def SoundV (P : Program) (W0 : World) (VA : FuncId → List AV → VH → (AV → VH → Prop) → Prop) (A : FuncId → List Value → Hp → (Value → Hp → Prop) → Prop) : Prop :=
  ∀ f as h K, VA f as h K → ∀ C h1 us, VRel W0 C h h1 → RVs W0 C as us → A f us h1 (VK W0 C K)
theorem clA_rv {C1 C2 : Cx} : ∀ {n : Nat} {v : AV} {u : Value}, clA n v = true → RV W0 C1 v u → RV W0 C2 v u
  | n, .sc w, u, _, h => by obtain ⟨rfl, hs⟩ := h.sc_inv; exact .sc hs
  | n + 1, .agg cs, u, hc, h => by
    obtain ⟨us, rfl, hr⟩ := h.agg_inv
    simp only [clA, List.all_eq_true] at hc
    exact .agg (by simpa using hr.1) fun i c w k1 k2 => clA_rv (hc c (List.mem_of_getElem? k1)) (hr.2 i c w k1 (by simpa using k2))
  | n + 1, .tup cs, u, hc, h => by
    obtain ⟨us, rfl, hr⟩ := h.tup_inv
    simp only [clA, List.all_eq_true] at hc
    exact .tup (by simpa using hr.1) fun i c w k1 k2 => clA_rv (hc c (List.mem_of_getElem? k1)) (hr.2 i c w k1 (by simpa using k2))
  | 0, .agg cs, u, hc, h => by simp [clA] at hc
  | 0, .tup cs, u, hc, h => by simp [clA] at hc
  | n, .isl .., u, hc, h => by cases n <;> simp [clA] at hc
  | n, .own .., u, hc, h => by cases n <;> simp [clA] at hc
  | n, .op .., u, hc, h => by cases n <;> simp [clA] at hc
  | n, .ip .., u, hc, h => by cases n <;> simp [clA] at hc
  | n, .fn .., u, hc, h => by cases n <;> simp [clA] at hc
  | n, .junk, u, hc, h => by cases n <;> simp [clA] at hc
theorem call_v {VA : FuncId → List AV → VH → (AV → VH → Prop) → Prop} {A : FuncId → List Value → Hp → (Value → Hp → Prop) → Prop} (hA : SoundV P W0 VA A) (hm : Mono A) (R : VRel W0 C h h1) {g : FuncId} {as : List AV} {us : List Value} (hr : RVs W0 C as us) (hw : vCall VA g as h K) : A g us h1 (VK W0 C K) := by
  rcases hw with hw | ⟨as', hl, hb, hw⟩
  · exact hA g as h K hw C h1 us R hr
  · have hr' : RVs W0 (C.look h1) as' us := ⟨by rw [← hl]; exact hr.1, fun i c' u k1 k2 => by
      have hlt := (List.getElem?_eq_some_iff.1 k1).1
      have k3 := List.getElem?_eq_getElem (show i < as.length by rw [hl]; exact hlt)
      exact bz_sim R (hb i _ c' k3 k1) (hr.2 i _ u k3 k2)⟩
    refine hm _ _ _ _ _ (fun u h1' hk => ?_) (hA g as' _ _ hw (C.look h1) h1 us (look_rel R) hr')
    obtain ⟨v, h', C', ⟨hv, hK⟩, le, R', hvu⟩ := hk
    obtain ⟨le2, R2⟩ := look_back R le R'
    exact ⟨v, h, _, hK, le2, R2, clA_rv hv hvu⟩
theorem vop_sim {G : Nat → AV} {VA : FuncId → List AV → VH → (AV → VH → Prop) → Prop} {A : FuncId → List Value → Hp → (Value → Hp → Prop) → Prop} (hA : SoundV P W0 VA A) (hm : Mono A) (hG : GOk W0 G) {o : Oper} {ρ : VF} {ρ1 : Fr} (R : VRel W0 C h h1) (F : FV W0 C ρ ρ1) (hw : vop P G VA o ρ h K) : wop P W0 A o ρ1 h1 (VK W0 C K) := by
  have E := fun {x : Operand} (hx : vok G x) => F.ev hG hx
  unfold vop at hw
  unfold wop
  split at hw
  · rename_i x hop; rw [hop]; obtain ⟨a, b⟩ := E hw.1; exact ⟨b, .same R a hw.2⟩
  · rename_i x hop; rw [hop]; obtain ⟨a, b⟩ := E hw.1; exact ⟨b, .same R a hw.2⟩
  · rename_i c x y hop
    rw [hop]
    obtain ⟨h1, h2, h3, t, ht, k1, k2⟩ := hw
    obtain ⟨a1, b1⟩ := E h1; obtain ⟨a2, b2⟩ := E h2; obtain ⟨a3, b3⟩ := E h3
    rw [ht] at a1
    exact ⟨b1, b2, b3, t, a1.sc_inv.1, fun e => .same R a2 (k1 e), fun e => .same R a3 (k2 e)⟩
  · rename_i e hop
    rw [hop]
    obtain ⟨zs, hzs, hw⟩ := hw
    unfold zcO at hzs
    split at hzs
    · rename_i z hz
      split at hzs
      · rename_i hc
        cases hzs
        exact ⟨z, hz, cloV_clo 4 z hc.1, box_v R (ofV_rel 4 z hc.1) ⟨ofV_parts 4 z, hc.2.1, hc.2.2, hw⟩⟩
      · cases hzs
    · cases hzs
  · rename_i e x hop; rw [hop]; obtain ⟨a, b⟩ := E hw.1; exact ⟨b, box_v R a hw.2⟩
  · rename_i t parts hop
    rw [hop]
    obtain ⟨a, b⟩ := F.evs hG hw.1
    refine ⟨b, build_v R (ps := parts.toList.map fun p => (p.1, evv G ρ p.2)) ⟨by simp, fun i p q g1 g2 => ?_⟩ hw.2⟩
    simp only [List.getElem?_map] at g1 g2
    obtain ⟨r, hr, rfl⟩ := Option.map_eq_some_iff.1 g1
    rw [hr] at g2
    cases g2
    exact ⟨rfl, (E (hw.1 r.2 (List.mem_map.2 ⟨r, List.mem_of_getElem? hr, rfl⟩))).1⟩
  · rename_i t len parts hop
    rw [hop]
    obtain ⟨a, b⟩ := F.evs hG hw.1
    refine ⟨b, buildS_v R (ps := parts.toList.map fun p => (p.1, evv G ρ p.2)) ⟨by simp, fun i p q g1 g2 => ?_⟩ hw.2⟩
    simp only [List.getElem?_map] at g1 g2
    obtain ⟨r, hr, rfl⟩ := Option.map_eq_some_iff.1 g1
    rw [hr] at g2
    cases g2
    exact ⟨rfl, (E (hw.1 r.2 (List.mem_map.2 ⟨r, List.mem_of_getElem? hr, rfl⟩))).1⟩
  · rename_i t x hop; rw [hop]; obtain ⟨a, b⟩ := E hw.1; exact ⟨b, load_v R a hw.2⟩
  · rename_i t x y hop; rw [hop]; obtain ⟨a, b⟩ := E hw.1; obtain ⟨c, d⟩ := E hw.2.1; exact ⟨b, d, store_v R a c hw.2.2⟩
  · rename_i x hop
    rw [hop]
    obtain ⟨h1, h2, hK⟩ := hw
    obtain ⟨a, b⟩ := E h1
    refine ⟨b, ?_, .same R a hK⟩
    generalize evv G ρ x = v at a h2
    unfold okNil at h2
    split at h2
    · rename_i j o
      obtain ⟨q, hq⟩ := Option.isSome_iff_exists.1 h2
      unfold blkV at hq
      split at hq
      · rename_i e cs hj
        obtain ⟨b, hb, _⟩ := R.blk j e false cs hj
        exact .inl ⟨_, a.op_inv.2 b hb⟩
      · cases hq
    · obtain ⟨ad, us, hu, _⟩ := a.ip_inv
      exact .inl ⟨_, hu⟩
    · obtain ⟨us, ws, hu, _⟩ := a.fn_inv
      exact .inr ⟨_, _, _, hu⟩
    · cases h2
  · rename_i op xT x y yT hop; rw [hop]; obtain ⟨a, b⟩ := E hw.1; obtain ⟨c, d⟩ := E hw.2.1; exact ⟨b, d, bin_v R a c hw.2.2⟩
  · rename_i op xT x hop
    rw [hop]
    obtain ⟨h1, v, he, hw⟩ := hw
    obtain ⟨a, b⟩ := E h1
    rw [he] at a
    obtain ⟨hv, hs⟩ := a.sc_inv
    simp only [hv]
    exact ⟨b, scV_clo hs 2, sc_v R hw⟩
  · rename_i src dst x hop; rw [hop]; obtain ⟨a, b⟩ := E hw.1; exact ⟨b, conv_v R a hw.2⟩
  · rename_i fn xs ys hop
    rw [hop]
    obtain ⟨a1, b1⟩ := F.evs hG hw.1; obtain ⟨a2, b2⟩ := F.evs hG hw.2.1
    exact ⟨b1, b2, .same R (.fn (by simp) (fun i c u g1 g2 => a1.2 i c u g1 (by simpa using g2)) (by simp) (fun i c u g1 g2 => a2.2 i c u g1 (by simpa using g2))) hw.2.2⟩
  · rename_i t l c hop; rw [hop]; obtain ⟨a, b⟩ := E hw.1; obtain ⟨c, d⟩ := E hw.2.1; exact ⟨b, d, make_v R a c hw.2.2⟩
  · rename_i t x lo hi hop
    rw [hop]
    obtain ⟨a, b⟩ := E hw.1
    obtain ⟨_, d⟩ := F.evs hG hw.2.1
    refine ⟨b, d, slice_v R a ?_ ?_ hw.2.2⟩
    · cases lo with
      | none => exact .inl ⟨rfl, rfl⟩
      | some y => exact .inr ⟨_, _, rfl, rfl, (E (hw.2.1 y (by simp))).1⟩
    · cases hi with
      | none => exact .inl ⟨rfl, rfl⟩
      | some y => exact .inr ⟨_, _, rfl, rfl, (E (hw.2.1 y (by simp))).1⟩
  · rename_i s x f hop; rw [hop]; obtain ⟨a, b⟩ := E hw.1; exact ⟨b, field_v R a hw.2⟩
  · rename_i s x f hop; rw [hop]; obtain ⟨a, b⟩ := E hw.1; exact ⟨b, fieldV_v R a hw.2⟩
  · rename_i t x ix hop; rw [hop]; obtain ⟨a, b⟩ := E hw.1; obtain ⟨c, d⟩ := E hw.2.1; exact ⟨b, d, ixAddr_v R a c hw.2.2⟩
  · rename_i t x ix hop; rw [hop]; obtain ⟨a, b⟩ := E hw.1; obtain ⟨c, d⟩ := E hw.2.1; exact ⟨b, d, ix_v R a c hw.2.2⟩
  · rename_i x i hop
    rw [hop]
    obtain ⟨h1, vs, v, he, hi, hK⟩ := hw
    obtain ⟨a, b⟩ := E h1
    rw [he] at a
    obtain ⟨us, hu, hr⟩ := a.tup_inv
    obtain ⟨u, g1, g2⟩ := hr.get hi
    exact ⟨b, us, u, hu, by simpa using g1, .same R g2 hK⟩
  · rename_i t x hop
    rw [hop]
    obtain ⟨h2, s, hu, he, hK⟩ := hw
    obtain ⟨a, b⟩ := E h2
    rw [he] at a
    refine ⟨b, s, hu, a.sc_inv.1, _, _, C.new (h1.length, false), hK C.N (R.lt _ (Nat.le_refl _)), C.new_le _, R.push0 _ _ (.inr ⟨s, 0, rfl, rfl⟩), .op (Nat.lt_succ_self _) rfl fun b' hb' => ?_⟩
    rw [Cx.new_at] at hb'; cases hb'; rfl
  · rename_i x hop
    rw [hop]
    obtain ⟨h2, j, s, pos, he, hj, k1, k2⟩ := hw
    obtain ⟨a, b⟩ := E h2
    rw [he] at a
    obtain ⟨b', hb, g1, g2⟩ := R.itr j s pos hj
    refine ⟨b, b', s, pos, a.op_inv.2 b' hb, g1, fun hp => ?_, fun hp => ?_⟩
    · refine ⟨_, _, C, k1 hp, .refl C, ?_, ?_⟩
      · refine ⟨fun i hi => ?_, fun i x hx => ?_, fun i e' nl cs1 hi => ?_, fun i s p hi => ?_, R.inj, fun b2 x hz => ?_⟩
        · rw [hset_ne]
          · exact R.lt i hi
          · rintro rfl; have := R.lt i hi; rw [hj] at this; cases this
        · refine ⟨(R.dom i x hx).1, ?_⟩
          unfold hset; split
          · rfl
          · exact (R.dom i x hx).2
        · unfold hset at hi
          split at hi
          · cases hi
          · rename_i hne
            obtain ⟨b2, q1, q2, q3⟩ := R.blk i e' nl cs1 hi
            refine ⟨b2, q1, q2, fun hf => ?_⟩
            subst hf
            obtain ⟨us, p1, p2⟩ := q3 rfl
            refine ⟨us, ?_, p2⟩
            rw [List.getElem?_set_ne]
            · exact p1
            · rintro rfl; exact hne (R.inj i j _ q1 hb)
        · unfold hset at hi
          split at hi
          · rename_i hh; subst hh
            cases hi
            exact ⟨b', hb, by rw [List.getElem?_set_self (List.getElem?_eq_some_iff.1 g1).1], g2⟩
          · rename_i hne
            obtain ⟨b2, q1, q2, q3⟩ := R.itr i s p hi
            refine ⟨b2, q1, ?_, q3⟩
            rw [List.getElem?_set_ne]
            · exact q2
            · rintro rfl; exact hne (R.inj i j _ q1 hb)
        · have he := R.fz b2 x hz
          rw [List.getElem?_set_ne]
          · exact he
          · rintro rfl; rw [hz] at g2; cases g2
      · have : RVs W0 C [AV.sc (.bool true), .sc (.int .i64 pos), .sc (.int .i32 (Utf8.decode s pos).1)] [.bool true, .int .i64 pos, .int .i32 (Utf8.decode s pos).1] := RVs.cons (.sc rfl) (RVs.cons (.sc rfl) (RVs.cons (.sc rfl) RVs.nil))
        exact this.tupr
    · have : RVs W0 C [AV.sc (.bool false)] [.bool false] := RVs.cons (.sc rfl) RVs.nil
      exact .same R this.tupr (k2 hp)
  · rename_i c hop
    rw [hop]
    obtain ⟨h0, hw⟩ := hw
    obtain ⟨a0, b0⟩ := F.evs hG h0
    refine ⟨b0, ?_⟩
    split at hw
    · rename_i hcal
      rw [hcal]
      split at hw
      · rename_i x t hax hat
        rw [hax, hat]
        exact len_v R (E (h0 x (by rw [hax]; simp))).1 hw
      · exact hw.elim
    · rename_i hcal
      rw [hcal]
      split at hw
      · rename_i s x t t' hax hat
        rw [hax, hat]
        exact append_v R (E (h0 s (by rw [hax]; simp))).1 (E (h0 x (by rw [hax]; simp))).1 hw
      · exact hw.elim
    · rename_i hcal
      rw [hcal]
      obtain ⟨vs, hvs, hw⟩ := hw
      rw [hvs] at a0
      have h5 := a0.scs
      have h6 : c.args.map (evo ρ1) = vs.toArray := by apply Array.ext'; simpa using h5
      refine ⟨fun x hx => ?_, by rw [h6]; exact sc_v R hw⟩
      have hm : evo ρ1 x ∈ vs := by rw [← h5]; exact List.mem_map.2 ⟨x, hx, rfl⟩
      obtain ⟨i, hi⟩ := List.getElem?_of_mem hm
      rw [h5] at a0
      exact scV_clo (a0.2 i (.sc (evo ρ1 x)) (evo ρ1 x) (by rw [List.getElem?_map, hi]; rfl) hi).sc_inv.2 2
    · rename_i hcal
      rw [hcal]
      obtain ⟨vs, hvs, hw⟩ := hw
      rw [hvs] at a0
      have h5 := a0.scs
      have h6 : c.args.map (evo ρ1) = vs.toArray := by apply Array.ext'; simpa using h5
      refine ⟨fun x hx => ?_, by rw [h6]; exact sc_v R hw⟩
      have hm : evo ρ1 x ∈ vs := by rw [← h5]; exact List.mem_map.2 ⟨x, hx, rfl⟩
      obtain ⟨i, hi⟩ := List.getElem?_of_mem hm
      rw [h5] at a0
      exact scV_clo (a0.2 i (.sc (evo ρ1 x)) (evo ρ1 x) (by rw [List.getElem?_map, hi]; rfl) hi).sc_inv.2 2
    · rename_i f hcal
      rw [hcal]
      obtain ⟨h2, g, xs, ys, he, hw⟩ := hw
      obtain ⟨a, b⟩ := E h2
      rw [he] at a
      obtain ⟨us, ws, hu, hr1, hr2⟩ := a.fn_inv
      exact ⟨b, g, us, ws, hu, call_v hA hm R ((hr1.append a0).append hr2) hw⟩
    · exact hw.elim
  · exact hw.elim
end
end Go.Proofs.AbM
