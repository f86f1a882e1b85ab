/- The abstract machine: more outcomes asked, less told; and a region that draws its order. -/
import Derived.Test.YtbmidddpddiopaaDoorAbLib
set_option linter.unusedVariables false
set_option linter.unusedSimpArgs false
namespace Go.Proofs.AbM
open Go.RowKit
def Mono (A : FuncId → List Value → Hp → (Value → Hp → Prop) → Prop) : Prop := ∀ f args h K K', (∀ v h', K v h' → K' v h') → A f args h K → A f args h K'
section
variable {P : Program} {W0 : World} {A : FuncId → List Value → Hp → (Value → Hp → Prop) → Prop}
theorem wSc_mono {s : Sem Value} {K K' : Value → Prop} (hk : ∀ v, K v → K' v) (hw : wSc P s K) : wSc P s K' := by
  obtain ⟨v, h1, h2, h3⟩ := hw; exact ⟨v, h1, h2, hk _ h3⟩
theorem wop_mono (hA : Mono A) {o : Oper} {ρ : Fr} {h : Hp} {K K' : Value → Hp → Prop} (hk : ∀ v h', K v h' → K' v h') (hw : wop P W0 A o ρ h K) : wop P W0 A o ρ h K' := by
  unfold wop at hw ⊢
  split at hw
  · exact ⟨hw.1, hk _ _ hw.2⟩
  · exact ⟨hw.1, hk _ _ hw.2⟩
  · obtain ⟨h1, h2, h3, t, ht, k1, k2⟩ := hw
    exact ⟨h1, h2, h3, t, ht, fun e => hk _ _ (k1 e), fun e => hk _ _ (k2 e)⟩
  · obtain ⟨z, h1, h2, h3, h4, h5⟩ := hw; exact ⟨z, h1, h2, h3, h4, hk _ _ h5⟩
  · obtain ⟨h2, h3, h4, h5⟩ := hw; exact ⟨h2, h3, h4, hk _ _ h5⟩
  · obtain ⟨h1, z, h2, h3, h4⟩ := hw
    refine ⟨h1, z, h2, h3, h4.imp ?_ ?_⟩
    · rintro ⟨fs, pl, cs, a, b, c, d⟩; exact ⟨fs, pl, cs, a, b, c, hk _ _ d⟩
    · rintro ⟨n, e, sz, cs, a, b, c, d⟩; exact ⟨n, e, sz, cs, a, b, c, hk _ _ d⟩
  · obtain ⟨h1, e, sz, z, cs, a1, a2, a3, a4, a5, a6, a7, a8, a9, a10, a11⟩ := hw
    exact ⟨h1, e, sz, z, cs, a1, a2, a3, a4, a5, a6, a7, a8, a9, a10, hk _ _ a11⟩
  · obtain ⟨h1, ad, he, g, hg, k1, k2⟩ := hw
    refine ⟨h1, ad, he, g, hg, fun e => ?_, fun e => ?_⟩
    · obtain ⟨n, cs, a, b, c⟩ := k1 e; exact ⟨n, cs, a, b, hk _ _ c⟩
    · obtain ⟨v, a, b⟩ := k2 e; exact ⟨v, a, hk _ _ b⟩
  · obtain ⟨h1, h2, j, o, e, xs, a1, a2, a3, a4, a5, a6⟩ := hw
    exact ⟨h1, h2, j, o, e, xs, a1, a2, a3, a4, a5, hk _ _ a6⟩
  · exact ⟨hw.1, hw.2.1, hk _ _ hw.2.2⟩
  · refine ⟨hw.1, hw.2.1, hw.2.2.imp ?_ (Or.imp ?_ ?_)⟩
    · rintro ⟨a, b, c⟩; exact ⟨a, b, wSc_mono (fun v => hk v h) c⟩
    · rintro ⟨p, n, c, e, a1, a2, a3, a4⟩
      exact ⟨p, n, c, e, a1, a2, a3, a4.imp (fun q => ⟨q.1, hk _ _ q.2⟩) (fun q => ⟨q.1, hk _ _ q.2⟩)⟩
    · rintro ⟨p, e, a1, a2, a3, a4⟩
      exact ⟨p, e, a1, a2, a3, a4.imp (fun q => ⟨q.1, hk _ _ q.2⟩) (fun q => ⟨q.1, hk _ _ q.2⟩)⟩
  · exact ⟨hw.1, hw.2.1, wSc_mono (fun v => hk v h) hw.2.2⟩
  · refine ⟨hw.1, hw.2.imp ?_ (Or.imp ?_ (Or.imp ?_ ?_))⟩
    · rintro ⟨a, b⟩; exact ⟨a, wSc_mono (fun v => hk v h) b⟩
    · rintro ⟨e, a1, a2, a3, a, n, c, ns, a4, a5, a6, a7⟩; exact ⟨e, a1, a2, a3, a, n, c, ns, a4, a5, a6, hk _ _ a7⟩
    · rintro ⟨e, s, a1, a2, a3, a4, a5, a6, a7⟩; exact ⟨e, s, a1, a2, a3, a4, a5, a6, hk _ _ a7⟩
    · rintro ⟨e, j, o, n, e', xs, a1, a2, a3, a4, a5, a6⟩; exact ⟨e, j, o, n, e', xs, a1, a2, a3, a4, a5, hk _ _ a6⟩
  · exact ⟨hw.1, hw.2.1, hk _ _ hw.2.2⟩
  · obtain ⟨h1, h2, k, k', n, e, z, b, a1, a2, a3, a4, a5, a6, a7, a8, a9, a10, a11⟩ := hw
    exact ⟨h1, h2, k, k', n, e, z, b, a1, a2, a3, a4, a5, a6, a7, a8, a9, a10, hk _ _ a11⟩
  · refine ⟨hw.1, hw.2.1, ?_⟩
    have h3 := hw.2.2
    unfold wSlice at h3 ⊢
    split at h3
    · obtain ⟨a, l, r, a1, a2, a3, a4, a5, a6⟩ := h3
      exact ⟨a, l, r, a1, a2, a3, a4, a5, hk _ _ a6⟩
    · rename_i a n c _
      obtain ⟨e, sz, a1, a2, a3, l, r, a4, a5, a6, a7, a8⟩ := h3
      refine ⟨e, sz, a1, a2, a3, l, r, a4, a5, a6, a7, ?_⟩
      cases a with
      | none => exact ⟨a8.1, hk _ _ a8.2⟩
      | some a =>
        refine a8.imp ?_ (Or.imp ?_ ?_)
        · rintro ⟨b1, b2, b3, b4⟩; exact ⟨b1, b2, b3, hk _ _ b4⟩
        · rintro ⟨j, o, b1, b2, b3, b4, b5⟩; exact ⟨j, o, b1, b2, b3, fun e => hk _ _ (b4 e), fun e => hk _ _ (b5 e)⟩
        · rintro ⟨b1, b2, b3, b4, b5⟩; exact ⟨b1, b2, b3, b4, hk _ _ b5⟩
    · exact h3.elim
  · obtain ⟨h1, fs, fd, n, ad, a1, a2, a3, a4, a5, a6⟩ := hw
    exact ⟨h1, fs, fd, n, ad, a1, a2, a3, a4, a5, hk _ _ a6⟩
  · obtain ⟨h1, fs, fd, cs, u, a1, a2, a3, a4, a5⟩ := hw
    exact ⟨h1, fs, fd, cs, u, a1, a2, a3, a4, hk _ _ a5⟩
  · obtain ⟨h1, h2, k, i, a, b⟩ := hw
    refine ⟨h1, h2, k, i, a, b.imp ?_ ?_⟩
    · rintro ⟨e, a, n, c, sz, a1, a2, a3, a4, a5, a6⟩; exact ⟨e, a, n, c, sz, a1, a2, a3, a4, a5, hk _ _ a6⟩
    · rintro ⟨e, a, n, sz, a1, a2, a3, a4, a5, a6⟩; exact ⟨e, a, n, sz, a1, a2, a3, a4, a5, hk _ _ a6⟩
  · obtain ⟨h1, h2, k, i, a, b, c⟩ := hw
    refine ⟨h1, h2, k, i, a, b, c.imp ?_ ?_⟩
    · rintro ⟨e, cs, n, sz, u, a1, a2, a3, a4, a5, a6⟩; exact ⟨e, cs, n, sz, u, a1, a2, a3, a4, a5, hk _ _ a6⟩
    · rintro ⟨s, b, a1, a2, a3, a4⟩; exact ⟨s, b, a1, a2, a3, hk _ _ a4⟩
  · obtain ⟨h1, vs, v, a1, a2, a3⟩ := hw
    exact ⟨h1, vs, v, a1, a2, hk _ _ a3⟩
  · obtain ⟨h1, s, a1, a2, a3⟩ := hw
    exact ⟨h1, s, a1, a2, hk _ _ a3⟩
  · obtain ⟨h1, j, s, pos, a1, a2, a3, a4⟩ := hw
    exact ⟨h1, j, s, pos, a1, a2, fun e => hk _ _ (a3 e), fun e => hk _ _ (a4 e)⟩
  · refine ⟨hw.1, ?_⟩
    have h2 := hw.2
    split at h2
    · split at h2
      · unfold wLen at h2 ⊢
        split at h2
        · exact ⟨h2.1, hk _ _ h2.2⟩
        · exact ⟨h2.1, hk _ _ h2.2⟩
        · obtain ⟨n, e, a, b⟩ := h2; exact ⟨n, e, a, hk _ _ b⟩
      · exact h2.elim
    · split at h2
      · obtain ⟨e, sz, b, n, vs, z, a1, a2, a3, a4, a5, a6, a7, a8⟩ := h2
        refine ⟨e, sz, b, n, vs, z, a1, a2, a3, a4, a5, a6, a7, a8.imp ?_ ?_⟩
        · rintro ⟨b1, b2, b3, b4, b5⟩; exact ⟨b1, b2, b3, fun e => hk _ _ (b4 e), fun e => hk _ _ (b5 e)⟩
        · rintro ⟨j, l, xs, b1, b2, b3, b4, b5, b6⟩; exact ⟨j, l, xs, b1, b2, b3, b4, b5, hk _ _ b6⟩
      · exact h2.elim
    · exact ⟨h2.1, wSc_mono (fun v => hk v h) h2.2⟩
    · exact ⟨h2.1, wSc_mono (fun v => hk v h) h2.2⟩
    · obtain ⟨h1, g, xs, ys, a1, a2⟩ := h2
      exact ⟨h1, g, xs, ys, a1, hA _ _ _ _ _ hk a2⟩
    · exact h2.elim
  · exact hw.elim
theorem wops_mono (hA : Mono A) {n : Nat} {ops : Array Oper} : ∀ {os : List Oper} {K K' : Fr → Hp → Prop} {ρ : Fr} {h : Hp}, (∀ ρ h, K ρ h → K' ρ h) → wops P W0 A n ops os K ρ h → wops P W0 A n ops os K' ρ h
  | [], K, K', ρ, h, hk, hw => hk _ _ hw
  | o :: os, K, K', ρ, h, hk, hw => by
    unfold wops at hw ⊢
    refine ⟨hw.1, ?_⟩
    have h2 := hw.2
    split at h2
    · exact wop_mono hA (fun v h' hh => wops_mono hA hk hh) h2
    · obtain ⟨d, t, a1, a2, a3, a4, a5⟩ := h2
      exact ⟨d, t, a1, a2, a3, fun e => wop_mono hA (fun v h' hh => wops_mono hA hk hh) (a4 e), fun e => wops_mono hA hk (a5 e)⟩
theorem wany_mono (hA : Mono A) {n : Nat} {ops : Array Oper} : ∀ {fuel : Nat} {l : Array Bool} {K K' : Fr → Hp → Prop} {ρ : Fr} {h : Hp}, (∀ ρ h, K ρ h → K' ρ h) → wany P W0 A n ops K fuel l ρ h → wany P W0 A n ops K' fuel l ρ h
  | 0, l, K, K', ρ, h, hk, hw => ⟨hw.1, hk _ _ hw.2⟩
  | fuel + 1, l, K, K', ρ, h, hk, hw => by
    refine ⟨fun e => hk _ _ (hw.1 e), fun i hi => ?_⟩
    obtain ⟨o, ho, h1⟩ := hw.2 i hi
    exact ⟨o, ho, wops_mono hA (fun ρ h hh => wany_mono hA hk hh) h1⟩
theorem thenA_mono {next next' : Fr → Hp → Prop} {Q Q' : Exit → Fr → Hp → Prop} (h1 : ∀ ρ h, next ρ h → next' ρ h) (h2 : ∀ e ρ h, Q e ρ h → Q' e ρ h) (e : Exit) (ρ : Fr) (h : Hp) (hh : thenA next Q e ρ h) : thenA next' Q' e ρ h := by
  cases e with
  | normal => exact h1 _ _ hh
  | _ => exact h2 _ _ _ hh
theorem inBlockA_mono {id : Nat} {Q Q' : Exit → Fr → Hp → Prop} (h2 : ∀ e ρ h, Q e ρ h → Q' e ρ h) (e : Exit) (ρ : Fr) (h : Hp) (hh : inBlockA id Q e ρ h) : inBlockA id Q' e ρ h := by
  cases e with
  | exit i => simp only [inBlockA] at hh ⊢; split at hh <;> rename_i hi <;> simp only [hi, if_true, if_false] <;> exact h2 _ _ _ hh
  | _ => exact h2 _ _ _ hh
theorem awp_mono (hA : Mono A) {n : Nat} : ∀ (c : Code) {Q Q' : Exit → Fr → Hp → Prop} {ρ : Fr} {h : Hp}, (∀ e ρ h, Q e ρ h → Q' e ρ h) → awp P W0 A n c Q ρ h → awp P W0 A n c Q' ρ h := by
  intro c
  induction c with
  | skip => intro Q Q' ρ h hq hw; exact hq _ _ _ hw
  | region id ops b =>
    intro Q Q' ρ h hq hw
    cases b with
    | false => exact wops_mono hA (fun ρ h => hq _ ρ h) hw
    | true => exact ⟨hw.1, wany_mono hA (fun ρ h => hq _ ρ h) hw.2⟩
  | seq a b iha ihb => intro Q Q' ρ h hq hw; exact iha (fun e ρ h => thenA_mono (fun ρ h => ihb hq) hq e ρ h) hw
  | cond c x y ihx ihy =>
    intro Q Q' ρ h hq hw
    obtain ⟨h1, t, ht, k1, k2⟩ := hw
    exact ⟨h1, t, ht, fun e => ihx hq (k1 e), fun e => ihy hq (k2 e)⟩
  | block id c ih => intro Q Q' ρ h hq hw; exact ih (fun e ρ h => inBlockA_mono hq e ρ h) hw
  | loop c ih =>
    intro Q Q' ρ h hq hw
    obtain ⟨I, k, h0, hr⟩ := hw
    exact ⟨I, k, h0, fun k ρ h hI => ih (fun e ρ h => thenA_mono (fun ρ h hh => hh) hq e ρ h) (hr k ρ h hI)⟩
  | exit id => intro Q Q' ρ h hq hw; exact hq _ _ _ hw
  | ret => intro Q Q' ρ h hq hw; exact hq _ _ _ hw
  | _ => intro Q Q' ρ h hq hw; exact hw.elim
theorem AC_mono : ∀ d, Mono (AC P W0 d)
  | 0 => fun f args h K K' hk hc => hc.elim
  | d + 1 => by
    rintro f args h K K' hk (hx | ⟨fn, c, h1, h2, h3, h4, h5⟩)
    · exact .inl (hx.mono hk)
    refine .inr ⟨fn, c, h1, h2, h3, h4, awp_mono (AC_mono d) c (fun e ρ h hh => ?_) h5⟩
    cases e <;> first | exact hh.elim | (obtain ⟨vs, a, b⟩ := hh; exact ⟨vs, a, hk _ _ b⟩)

theorem mapc {α : Type} {ρ ρ' : Fr} {xs : List Operand} (he : ∀ x ∈ xs, evo ρ x = evo ρ' x) : xs.map (evo ρ) = xs.map (evo ρ') := List.map_congr_left he
theorem wop_congr {o : Oper} {ρ ρ' : Fr} {h : Hp} {K : Value → Hp → Prop} (he : ∀ x ∈ o.op.operands, evo ρ x = evo ρ' x) (hw : wop P W0 A o ρ h K) : wop P W0 A o ρ' h K := by
  unfold wop at hw ⊢
  split at hw
  · rename_i x hop; rw [hop] at he; have e1 := he x (by simp [Op.operands]); exact e1 ▸ hw
  · rename_i x hop; rw [hop] at he; have e1 := he x (by simp [Op.operands]); exact e1 ▸ hw
  · rename_i c x y hop; rw [hop] at he
    have e1 := he c (by simp [Op.operands]); have e2 := he x (by simp [Op.operands]); have e3 := he y (by simp [Op.operands])
    simp only [← e1, ← e2, ← e3]; exact hw
  · exact hw
  · rename_i e x hop; rw [hop] at he; have e1 := he x (by simp [Op.operands]); exact e1 ▸ hw
  · rename_i t parts hop; rw [hop] at he
    have e1 : (parts.toList.map fun p => (p.1, evo ρ p.2)) = parts.toList.map fun p => (p.1, evo ρ' p.2) := List.map_congr_left fun p hp => by rw [he p.2 (by simp only [Op.operands, List.mem_toArray, List.mem_map]; exact ⟨p, hp, rfl⟩)]
    exact e1 ▸ hw
  · rename_i t len parts hop; rw [hop] at he
    have e1 : (parts.toList.map fun p => (p.1, evo ρ p.2)) = parts.toList.map fun p => (p.1, evo ρ' p.2) := List.map_congr_left fun p hp => by rw [he p.2 (by simp only [Op.operands, List.mem_toArray, List.mem_map]; exact ⟨p, hp, rfl⟩)]
    exact e1 ▸ hw
  · rename_i t x hop; rw [hop] at he; have e1 := he x (by simp [Op.operands]); exact e1 ▸ hw
  · rename_i t x y hop; rw [hop] at he
    have e1 := he x (by simp [Op.operands]); have e2 := he y (by simp [Op.operands])
    simp only [← e1, ← e2]; exact hw
  · rename_i x hop; rw [hop] at he; have e1 := he x (by simp [Op.operands]); exact e1 ▸ hw
  · rename_i op xT x y yT hop; rw [hop] at he
    have e1 := he x (by simp [Op.operands]); have e2 := he y (by simp [Op.operands])
    simp only [← e1, ← e2]; exact hw
  · rename_i op xT x hop; rw [hop] at he; have e1 := he x (by simp [Op.operands]); exact e1 ▸ hw
  · rename_i src dst x hop; rw [hop] at he; have e1 := he x (by simp [Op.operands]); exact e1 ▸ hw
  · rename_i fn xs ys hop; rw [hop] at he
    have e1 : xs.map (evo ρ) = xs.map (evo ρ') := Array.map_congr_left fun x hx => he x (by simp [Op.operands, hx])
    have e2 : ys.map (evo ρ) = ys.map (evo ρ') := Array.map_congr_left fun x hx => he x (by simp [Op.operands, hx])
    simp only [← e1, ← e2]; exact hw
  · rename_i t l c hop; rw [hop] at he
    have e1 := he l (by simp [Op.operands]); have e2 := he c (by simp [Op.operands])
    simp only [← e1, ← e2]; exact hw
  · rename_i t x lo hi hop; rw [hop] at he
    have e1 := he x (by simp [Op.operands])
    have e2 : lo.map (evo ρ) = lo.map (evo ρ') := by cases lo with | none => rfl | some y => simp only [Option.map_some, he y (by simp [Op.operands])]
    have e3 : hi.map (evo ρ) = hi.map (evo ρ') := by cases hi with | none => rfl | some y => simp only [Option.map_some, he y (by simp [Op.operands])]
    simp only [← e1, ← e2, ← e3]; exact hw
  · rename_i s x f hop; rw [hop] at he; have e1 := he x (by simp [Op.operands]); exact e1 ▸ hw
  · rename_i s x f hop; rw [hop] at he; have e1 := he x (by simp [Op.operands]); exact e1 ▸ hw
  · rename_i t x ix hop; rw [hop] at he
    have e1 := he x (by simp [Op.operands]); have e2 := he ix (by simp [Op.operands])
    simp only [← e1, ← e2]; exact hw
  · rename_i t x ix hop; rw [hop] at he
    have e1 := he x (by simp [Op.operands]); have e2 := he ix (by simp [Op.operands])
    simp only [← e1, ← e2]; exact hw
  · rename_i x i hop; rw [hop] at he; have e1 := he x (by simp [Op.operands]); exact e1 ▸ hw
  · rename_i t x hop; rw [hop] at he; have e1 := he x (by simp [Op.operands]); exact e1 ▸ hw
  · rename_i x hop; rw [hop] at he; have e1 := he x (by simp [Op.operands]); exact e1 ▸ hw
  · rename_i c hop; rw [hop] at he
    have e1 : c.args.map (evo ρ) = c.args.map (evo ρ') := Array.map_congr_left fun x hx => he x (by simp [Op.operands, Call.operands, hx])
    have e2 : ∀ x ∈ c.args.toList, evo ρ x = evo ρ' x := by
      intro x hx
      have hx' : x ∈ c.args := by simpa using hx
      exact he x (by simp [Op.operands, Call.operands, hx'])
    refine ⟨hw.1, ?_⟩
    have h2 := hw.2
    split at h2
    · split at h2
      · rename_i x t ha _; rw [← e2 x (by simp [ha])]; exact h2
      · exact h2.elim
    · split at h2
      · rename_i s x t t' ha _; rw [← e2 x (by simp [ha]), ← e2 s (by simp [ha])]; exact h2
      · exact h2.elim
    · exact ⟨fun x hx => e2 x hx ▸ h2.1 x hx, e1 ▸ h2.2⟩
    · exact ⟨fun x hx => e2 x hx ▸ h2.1 x hx, e1 ▸ h2.2⟩
    · rename_i f hcal
      have e3 := he f (by simp [Op.operands, Call.operands, hcal])
      rw [← e3, ← List.map_congr_left e2]; exact h2
    · exact h2.elim
  · exact hw.elim

/-! ### Operations that look at no memory, and those that only load -/
def lightO (P : Program) : Op → Bool
  | .move _ | .assign _ | .pick _ _ _ | .nilCheck _ | .unOp _ _ _ | .fieldAddr _ _ _ | .field _ _ _ | .indexAddr _ _ _ | .index _ _ _ | .extract _ _ | .binOp _ _ _ _ _ => true
  | .slice _ _ _ _ none => true
  | .convert s _ _ => (intK (P.underlying s)).isSome
  | .call c => match c.callee with | .builtin .len | .builtin .min | .builtin .max => true | _ => false
  | _ => false
def stillO (P : Program) : Op → Bool
  | .load _ _ => true
  | o => lightO P o
theorem wSc_lin {s : Sem Value} {K : Value → Prop} (hw : wSc P s K) : ∃ v, K v ∧ ∀ K' : Value → Prop, K' v → wSc P s K' := by
  obtain ⟨v, h1, h2, h3⟩ := hw; exact ⟨v, h3, fun K' hk => ⟨v, h1, h2, hk⟩⟩
theorem light_lin {o : Oper} {ρ : Fr} {h : Hp} {K : Value → Hp → Prop} (hl : lightO P o.op = true) (hw : wop P W0 A o ρ h K) : ∃ v, K v h ∧ ∀ h' (K' : Value → Hp → Prop), K' v h' → wop P W0 A o ρ h' K' := by
  unfold wop at hw ⊢
  split at hw
  · exact ⟨_, hw.2, fun h' K' hk => ⟨hw.1, hk⟩⟩
  · exact ⟨_, hw.2, fun h' K' hk => ⟨hw.1, hk⟩⟩
  · obtain ⟨h1, h2, h3, t, ht, k1, k2⟩ := hw
    cases t with
    | true => exact ⟨_, k1 rfl, fun h' K' hk => ⟨h1, h2, h3, true, ht, fun _ => hk, fun e => by cases e⟩⟩
    | false => exact ⟨_, k2 rfl, fun h' K' hk => ⟨h1, h2, h3, false, ht, (fun e => by cases e), fun _ => hk⟩⟩
  · rename_i hop; rw [hop] at hl; cases hl
  · rename_i hop; rw [hop] at hl; cases hl
  · rename_i hop; rw [hop] at hl; cases hl
  · rename_i hop; rw [hop] at hl; cases hl
  · rename_i hop; rw [hop] at hl; cases hl
  · rename_i hop; rw [hop] at hl; cases hl
  · exact ⟨_, hw.2.2, fun h' K' hk => ⟨hw.1, hw.2.1, hk⟩⟩
  · obtain ⟨h1, h2, h3⟩ := hw
    rcases h3 with ⟨a, b, c⟩ | ⟨p, n, c, e, a1, a2, a3, a4⟩ | ⟨p, e, a1, a2, a3, a4⟩
    · obtain ⟨v, k1, k2⟩ := wSc_lin c
      exact ⟨v, k1, fun h' K' hk => ⟨h1, h2, .inl ⟨a, b, k2 (fun v => K' v h') hk⟩⟩⟩
    · rcases a4 with ⟨b1, b2⟩ | ⟨b1, b2⟩
      · exact ⟨_, b2, fun h' K' hk => ⟨h1, h2, .inr (.inl ⟨p, n, c, e, a1, a2, a3, .inl ⟨b1, hk⟩⟩)⟩⟩
      · exact ⟨_, b2, fun h' K' hk => ⟨h1, h2, .inr (.inl ⟨p, n, c, e, a1, a2, a3, .inr ⟨b1, hk⟩⟩)⟩⟩
    · rcases a4 with ⟨b1, b2⟩ | ⟨b1, b2⟩
      · exact ⟨_, b2, fun h' K' hk => ⟨h1, h2, .inr (.inr ⟨p, e, a1, a2, a3, .inl ⟨b1, hk⟩⟩)⟩⟩
      · exact ⟨_, b2, fun h' K' hk => ⟨h1, h2, .inr (.inr ⟨p, e, a1, a2, a3, .inr ⟨b1, hk⟩⟩)⟩⟩
  · obtain ⟨h1, h2, h3⟩ := hw
    obtain ⟨v, k1, k2⟩ := wSc_lin h3
    exact ⟨v, k1, fun h' K' hk => ⟨h1, h2, k2 (fun v => K' v h') hk⟩⟩
  · rename_i src dst x hop
    rw [hop] at hl
    simp only [lightO] at hl
    obtain ⟨h1, h2⟩ := hw
    rcases h2 with ⟨a, b⟩ | ⟨e, a1, _⟩ | ⟨e, s, a1, _⟩ | ⟨e, j, o, n, e', xs, a0, a1, _⟩
    · obtain ⟨v, k1, k2⟩ := wSc_lin b
      exact ⟨v, k1, fun h' K' hk => ⟨h1, .inl ⟨a, k2 (fun v => K' v h') hk⟩⟩⟩
    · rw [a1] at hl; cases hl
    · rw [a1] at hl; cases hl
    · subst a0; rw [a1] at hl; cases hl
  · rename_i hop; rw [hop] at hl; cases hl
  · rename_i hop; rw [hop] at hl; cases hl
  · rename_i t x lo hi hop
    obtain ⟨h1, h2, h3⟩ := hw
    unfold wSlice at h3 ⊢
    split at h3
    · obtain ⟨a, l, r, a1, a2, a3, a4, a5, a6⟩ := h3
      refine ⟨_, a6, fun h' K' hk => ⟨h1, h2, ?_⟩⟩
      exact ⟨a, l, r, a1, a2, a3, a4, a5, hk⟩
    · rename_i a n c _
      obtain ⟨e, sz, a1, a2, a3, l, r, a4, a5, a6, a7, a8⟩ := h3
      cases a with
      | none => exact ⟨_, a8.2, fun h' K' hk => ⟨h1, h2, e, sz, a1, a2, a3, l, r, a4, a5, a6, a7, a8.1, hk⟩⟩
      | some a =>
        rcases a8 with ⟨b1, b2, b3, b4⟩ | ⟨j, o, b1, b2, b3, b4, b5⟩ | ⟨b1, b2, b3, b4, b5⟩
        · exact ⟨_, b4, fun h' K' hk => ⟨h1, h2, e, sz, a1, a2, a3, l, r, a4, a5, a6, a7, .inl ⟨b1, b2, b3, hk⟩⟩⟩
        · rcases Int.lt_or_eq_of_le a7 with hlt | heq
          · exact ⟨_, b4 hlt, fun h' K' hk => ⟨h1, h2, e, sz, a1, a2, a3, l, r, a4, a5, a6, a7, .inr (.inl ⟨j, o, b1, b2, b3, fun _ => hk, fun e => by omega⟩)⟩⟩
          · exact ⟨_, b5 heq, fun h' K' hk => ⟨h1, h2, e, sz, a1, a2, a3, l, r, a4, a5, a6, a7, .inr (.inl ⟨j, o, b1, b2, b3, (fun e => by omega), fun _ => hk⟩)⟩⟩
        · exact ⟨_, b5, fun h' K' hk => ⟨h1, h2, e, sz, a1, a2, a3, l, r, a4, a5, a6, a7, .inr (.inr ⟨b1, b2, b3, b4, hk⟩)⟩⟩
    · exact h3.elim
  · obtain ⟨h1, fs, fd, n, ad, a1, a2, a3, a4, a5, a6⟩ := hw
    exact ⟨_, a6, fun h' K' hk => ⟨h1, fs, fd, n, ad, a1, a2, a3, a4, a5, hk⟩⟩
  · obtain ⟨h1, fs, fd, cs, u, a1, a2, a3, a4, a5⟩ := hw
    exact ⟨_, a5, fun h' K' hk => ⟨h1, fs, fd, cs, u, a1, a2, a3, a4, hk⟩⟩
  · obtain ⟨h1, h2, k, i, a, b⟩ := hw
    rcases b with ⟨e, q, n, c, sz, a1, a2, a3, a4, a5, a6⟩ | ⟨e, q, n, sz, a1, a2, a3, a4, a5, a6⟩
    · exact ⟨_, a6, fun h' K' hk => ⟨h1, h2, k, i, a, .inl ⟨e, q, n, c, sz, a1, a2, a3, a4, a5, hk⟩⟩⟩
    · exact ⟨_, a6, fun h' K' hk => ⟨h1, h2, k, i, a, .inr ⟨e, q, n, sz, a1, a2, a3, a4, a5, hk⟩⟩⟩
  · obtain ⟨h1, h2, k, i, a, b, c⟩ := hw
    rcases c with ⟨e, cs, n, sz, u, a1, a2, a3, a4, a5, a6⟩ | ⟨s, q, a1, a2, a3, a4⟩
    · exact ⟨_, a6, fun h' K' hk => ⟨h1, h2, k, i, a, b, .inl ⟨e, cs, n, sz, u, a1, a2, a3, a4, a5, hk⟩⟩⟩
    · exact ⟨_, a4, fun h' K' hk => ⟨h1, h2, k, i, a, b, .inr ⟨s, q, a1, a2, a3, hk⟩⟩⟩
  · obtain ⟨h1, vs, v, a1, a2, a3⟩ := hw
    exact ⟨v, a3, fun h' K' hk => ⟨h1, vs, v, a1, a2, hk⟩⟩
  · rename_i hop; rw [hop] at hl; cases hl
  · rename_i hop; rw [hop] at hl; cases hl
  · rename_i c hop
    rw [hop] at hl
    simp only [lightO] at hl
    obtain ⟨h1, h2⟩ := hw
    split at h2
    · split at h2
      · unfold wLen at h2 ⊢
        split at h2
        · exact ⟨_, h2.2, fun h' K' hk => ⟨h1, h2.1, hk⟩⟩
        · exact ⟨_, h2.2, fun h' K' hk => ⟨h1, h2.1, hk⟩⟩
        · obtain ⟨n, e, a, b⟩ := h2; exact ⟨_, b, fun h' K' hk => ⟨h1, n, e, a, hk⟩⟩
      · exact h2.elim
    · rename_i hc; rw [hc] at hl; cases hl
    · obtain ⟨v, k1, k2⟩ := wSc_lin h2.2
      exact ⟨v, k1, fun h' K' hk => ⟨h1, h2.1, k2 (fun v => K' v h') hk⟩⟩
    · obtain ⟨v, k1, k2⟩ := wSc_lin h2.2
      exact ⟨v, k1, fun h' K' hk => ⟨h1, h2.1, k2 (fun v => K' v h') hk⟩⟩
    · rename_i hc; rw [hc] at hl; cases hl
    · exact h2.elim
  · exact hw.elim
theorem still_lin {o : Oper} {ρ : Fr} {h : Hp} {K : Value → Hp → Prop} (hl : stillO P o.op = true) (hw : wop P W0 A o ρ h K) : ∃ v, K v h ∧ ∀ (K' : Value → Hp → Prop), K' v h → wop P W0 A o ρ h K' := by
  cases hop : o.op with
  | load t x =>
    unfold wop at hw ⊢
    simp only [hop] at hw ⊢
    obtain ⟨h1, ad, he, g, hg, k1, k2⟩ := hw
    cases g with
    | true =>
      obtain ⟨n, cs, a, b, c⟩ := k1 rfl
      exact ⟨_, c, fun K' hk => ⟨h1, ad, he, true, hg, fun _ => ⟨n, cs, a, b, hk⟩, fun e => by cases e⟩⟩
    | false =>
      obtain ⟨v, a, b⟩ := k2 rfl
      exact ⟨_, b, fun K' hk => ⟨h1, ad, he, false, hg, (fun e => by cases e), fun _ => ⟨v, a, hk⟩⟩⟩
  | _ =>
    obtain ⟨v, k1, k2⟩ := light_lin (by rw [hop] at hl ⊢; exact hl) hw
    exact ⟨v, k1, fun K' hk => k2 h K' hk⟩

/-! ### Two operations change places -/
def rdO (o : Oper) : List Nat := o.op.operands.toList.filterMap fun | .tmp t => some t | _ => none
def noRd (a b : Oper) : Bool := match b.dst with | none => true | some d => !(rdO a).contains d
def twoDst (a b : Oper) : Bool := match a.dst, b.dst with | some d, some e => !Nat.beq d e | _, _ => true
def commO (P : Program) (a b : Oper) : Bool := a.guard.isNone && (b.guard.isNone && (twoDst a b && (noRd a b && (noRd b a && (lightO P a.op || (stillO P a.op && stillO P b.op))))))
theorem noRd_evo {a b : Oper} (hn : noRd a b = true) {ρ : Fr} {v : Value} : ∀ x ∈ a.op.operands, evo ρ x = evo (put ρ b.dst v) x := by
  intro x hx
  unfold noRd at hn
  cases hd : b.dst with
  | none => rfl
  | some d =>
    rw [hd] at hn
    cases x with
    | tmp t =>
      have hm : t ∈ rdO a := by
        unfold rdO
        rw [List.mem_filterMap]
        exact ⟨.tmp t, by simpa using hx, rfl⟩
      have hne : t ≠ d := by
        rintro rfl
        simp [hm] at hn
      simp only [evo, put, upd]
      rw [if_neg hne]
    | _ => rfl
theorem put_comm {a b : Oper} (ht : twoDst a b = true) (ρ : Fr) (u v : Value) : put (put ρ a.dst u) b.dst v = put (put ρ b.dst v) a.dst u := by
  unfold twoDst at ht
  cases ha : a.dst with
  | none => rfl
  | some d =>
    cases hb : b.dst with
    | none => rfl
    | some e =>
      rw [ha, hb] at ht
      have hne : d ≠ e := by
        rintro rfl
        simp at ht
      funext t
      simp only [put, upd]
      by_cases h1 : t = e <;> by_cases h2 : t = d <;> simp [h1, h2]
      · exact (hne (h2.symm.trans h1)).elim
      · exact fun h => (hne h.symm).elim
      · exact fun h => (hne h).elim
theorem wops_none {n : Nat} {ops : Array Oper} {o : Oper} {rest : List Oper} {K : Fr → Hp → Prop} {ρ : Fr} {h : Hp} (hg : o.guard = none) : wops P W0 A n ops (o :: rest) K ρ h = (dstOk n o.dst ∧ wop P W0 A o ρ h fun v h' => wops P W0 A n ops rest K (put ρ o.dst v) h') := by
  rw [wops, hg]
theorem wops_swap (hA : Mono A) {n : Nat} {ops : Array Oper} {a b : Oper} {rest : List Oper} {K : Fr → Hp → Prop} {ρ : Fr} {h : Hp} (hc : commO P a b = true) (hw : wops P W0 A n ops (a :: b :: rest) K ρ h) : wops P W0 A n ops (b :: a :: rest) K ρ h := by
  simp only [commO, Bool.and_eq_true, Option.isNone_iff_eq_none] at hc
  obtain ⟨ga, gb, ht, n1, n2, hl⟩ := hc
  rw [wops_none ga] at hw
  obtain ⟨da, hw⟩ := hw
  rw [wops_none gb]
  cases hla : lightO P a.op with
  | true =>
    obtain ⟨va, k1, k2⟩ := light_lin hla hw
    rw [wops_none gb] at k1
    obtain ⟨db, k1⟩ := k1
    refine ⟨db, wop_mono hA (fun vb h2 hh => ?_) (wop_congr (fun x hx => ((noRd_evo n2 x hx) : evo ρ x = evo (put ρ a.dst va) x).symm) k1)⟩
    rw [wops_none ga]
    refine ⟨da, wop_congr (noRd_evo n1) (k2 h2 _ ?_)⟩
    rw [← put_comm ht]
    exact hh
  | false =>
    rw [hla] at hl
    simp only [Bool.false_or, Bool.and_eq_true] at hl
    obtain ⟨va, k1, k2⟩ := still_lin hl.1 hw
    rw [wops_none gb] at k1
    obtain ⟨db, k1⟩ := k1
    obtain ⟨vb, k3, k4⟩ := still_lin hl.2 (wop_congr (fun x hx => ((noRd_evo n2 x hx) : evo ρ x = evo (put ρ a.dst va) x).symm) k1)
    refine ⟨db, k4 _ ?_⟩
    rw [wops_none ga]
    refine ⟨da, wop_congr (noRd_evo n1) (k2 _ ?_)⟩
    rw [← put_comm ht]
    exact k3
theorem wops_cons {n : Nat} {ops : Array Oper} {o : Oper} {rest : List Oper} {K : Fr → Hp → Prop} {ρ : Fr} {h : Hp} : wops P W0 A n ops (o :: rest) K ρ h ↔ wops P W0 A n ops [o] (wops P W0 A n ops rest K) ρ h := by
  unfold wops
  split <;> exact Iff.rfl
theorem wops_front (hA : Mono A) {n : Nat} {ops : Array Oper} {b : Oper} {post : List Oper} {K : Fr → Hp → Prop} : ∀ {pre : List Oper} {ρ : Fr} {h : Hp}, (∀ a ∈ pre, commO P a b = true) → wops P W0 A n ops (pre ++ b :: post) K ρ h → wops P W0 A n ops (b :: (pre ++ post)) K ρ h
  | [], ρ, h, hc, hw => hw
  | a :: pre, ρ, h, hc, hw => by
    refine wops_swap hA (hc a (by simp)) ?_
    rw [List.cons_append, wops_cons] at hw
    rw [wops_cons]
    exact wops_mono hA (fun ρ h hh => wops_front hA (fun x hx => hc x (by simp [hx])) hh) hw

/-! ### A region in any order -/
def binds (e : Edge) : Bool := Region.binds .any e
def direct (ops : Array Oper) (b a : Nat) : Bool := match ops[b]? with | some o => o.after.toList.any fun e => binds e && Nat.beq e.on a | none => false
def reachT (ops : Array Oper) : List (List Nat) :=
  ops.toList.foldl (fun acc o => acc ++ [(o.after.toList.filter binds).foldl (fun r e => if r.contains e.on then r else (acc.getD e.on []).foldl (fun r x => if r.contains x then r else x :: r) (e.on :: r)) []]) []
def inR (R : List (List Nat)) (b a : Nat) : Bool := (R.getD b []).any (Nat.beq a)
def okR (ops : Array Oper) (R : List (List Nat)) : Bool :=
  (List.range ops.size).all fun b => (R.getD b []).all fun a => match ops[b]? with | some o => o.after.toList.any fun e => binds e && (Nat.beq e.on a || inR R e.on a) | none => false
def okE (ops : Array Oper) : Bool := (List.range ops.size).all fun b => match ops[b]? with | some o => o.after.toList.all fun e => !binds e || (Nat.blt e.on ops.size && !Nat.beq e.on b) | none => false
def okPr (P : Program) (ops : Array Oper) (R : List (List Nat)) : List Nat → Bool
  | [] => true
  | a :: r => r.all (fun b => !direct ops a b && (!Nat.beq a b && (inR R b a || match ops[a]?, ops[b]? with | some x, some y => commO P x y | _, _ => false))) && okPr P ops R r
def okDraw (P : Program) (ops : Array Oper) (ord : List Nat) : Bool :=
  okE ops && (okR ops (reachT ops) && (okPr P ops (reachT ops) ord && (Nat.beq ord.length ops.size && ((List.range ops.size).all (fun i => ord.any (Nat.beq i)) && ord.all (fun i => Nat.blt i ops.size)))))
def pickO (ops : Array Oper) (ord : List Nat) : List Oper := ord.filterMap (ops[·]?)
theorem pickO_nil (ops : Array Oper) : pickO ops [] = [] := rfl
theorem pickO_cons (ops : Array Oper) (i : Nat) (r : List Nat) : pickO ops (i :: r) = (match ops[i]? with | some o => o :: pickO ops r | none => pickO ops r) := by unfold pickO; rw [List.filterMap_cons]; cases ops[i]? <;> rfl
theorem beq_iff {a b : Nat} : Nat.beq a b = true ↔ a = b := ⟨Nat.eq_of_beq_eq_true, fun h => by subst h; exact Nat.beq_refl a⟩
theorem inR_iff {R : List (List Nat)} {b a : Nat} : inR R b a = true ↔ a ∈ R.getD b [] := by
  unfold inR
  rw [List.any_eq_true]
  exact ⟨fun ⟨x, h1, h2⟩ => (beq_iff.1 h2) ▸ h1, fun h => ⟨a, h, beq_iff.2 rfl⟩⟩
theorem direct_iff {ops : Array Oper} {b a : Nat} {o : Oper} (ho : ops[b]? = some o) : direct ops b a = true ↔ ∃ e ∈ o.after, binds e = true ∧ e.on = a := by
  unfold direct
  rw [ho]
  simp only [List.any_eq_true, Bool.and_eq_true, beq_iff, Array.mem_toList_iff]
theorem ready_iff {ops : Array Oper} {l : Array Bool} {i : Nat} : i ∈ Region.ready .any ops l ↔ i < ops.size ∧ l.getD i true = false ∧ ∃ o, ops[i]? = some o ∧ ∀ e ∈ o.after, binds e = true → l.getD e.on false = true := by
  unfold Region.ready
  rw [List.mem_filter, List.mem_range]
  refine and_congr_right fun hi => ?_
  have ho : ops[i]? = some ops[i] := Array.getElem?_eq_getElem hi
  simp only [ho, Option.map_some, Option.getD_some, Bool.and_eq_true, Bool.not_eq_true', Array.all_eq_true', Bool.or_eq_true, Option.some.injEq, exists_eq_left']
  refine and_congr_right fun _ => ⟨fun h e he hb => ?_, fun h e he => ?_⟩
  · rcases h e he with hh | hh
    · unfold binds at hb; rw [hb] at hh; cases hh
    · exact hh
  · cases hb : Region.binds .any e with
    | false => exact .inl rfl
    | true => exact .inr (h e he hb)
theorem any_of (hA : Mono A) {n : Nat} {ops : Array Oper} {R : List (List Nat)} (hE : okE ops = true) (hR : okR ops R = true) {K : Fr → Hp → Prop} : ∀ (k : Nat) (rem : List Nat) (listed : Array Bool) (ρ : Fr) (h : Hp), rem.length = k →
    okPr P ops R rem = true → (∀ i ∈ rem, i < ops.size) → (∀ i, i < ops.size → listed[i]? = some (decide (i ∉ rem))) → (∀ i, i < ops.size → i ∉ rem → ∀ a, inR R i a = true → a ∉ rem) →
    wops P W0 A n ops (pickO ops rem) K ρ h → wany P W0 A n ops K k listed ρ h := by
  intro k
  induction k with
  | zero =>
    intro rem listed ρ h hk hp hs hl hc hw
    have : rem = [] := List.eq_nil_of_length_eq_zero hk
    subst this
    refine ⟨?_, hw⟩
    rw [List.eq_nil_iff_forall_not_mem]
    intro i hi
    obtain ⟨h1, h2, _⟩ := ready_iff.1 hi
    have := hl i h1
    rw [Array.getD_eq_getD_getElem?, this] at h2
    simp at h2
  | succ k ih =>
    intro rem listed ρ h hk hp hs hl hc hw
    have hlist : ∀ i, i < ops.size → ∀ d, listed.getD i d = true → i ∉ rem := by
      intro i hi d he
      rw [Array.getD_eq_getD_getElem?, hl i hi] at he
      simpa using he
    have hunl : ∀ i, i < ops.size → listed.getD i true = false → i ∈ rem := by
      intro i hi he
      rw [Array.getD_eq_getD_getElem?, hl i hi] at he
      simpa using he
    refine ⟨fun hr => ?_, fun i hi => ?_⟩
    · exfalso
      cases rem with
      | nil => simp at hk
      | cons i rest =>
        have his := hs i (by simp)
        have ho : ops[i]? = some ops[i] := Array.getElem?_eq_getElem his
        have : i ∈ Region.ready .any ops listed := by
          refine ready_iff.2 ⟨his, ?_, _, ho, fun e he hb => ?_⟩
          · rw [Array.getD_eq_getD_getElem?, hl i his]; simp
          · have hE' := List.all_eq_true.1 hE i (List.mem_range.2 his)
            rw [ho] at hE'
            have hE2 := List.all_eq_true.1 hE' e (by simpa using he)
            rw [hb] at hE2
            simp only [Bool.not_true, Bool.false_or, Bool.and_eq_true, Bool.not_eq_true'] at hE2
            have hlt : e.on < ops.size := Nat.le_of_ble_eq_true hE2.1
            have hne : e.on ≠ i := fun hh => by rw [beq_iff.2 hh] at hE2; cases hE2.2
            rw [Array.getD_eq_getD_getElem?, hl _ hlt]
            simp only [Option.getD_some, decide_eq_true_eq, List.mem_cons, not_or]
            refine ⟨hne, fun hm => ?_⟩
            simp only [okPr, Bool.and_eq_true, List.all_eq_true, Bool.not_eq_true'] at hp
            have := (hp.1 _ hm).1
            rw [(direct_iff ho).2 ⟨e, he, hb, rfl⟩] at this
            cases this
        rw [hr] at this
        cases this
    · obtain ⟨his, hun, o, ho, haft⟩ := ready_iff.1 hi
      have hmem := hunl i his hun
      obtain ⟨pre, post, rfl⟩ := List.append_of_mem hmem
      have hsplit : ∀ (pre : List Nat) , okPr P ops R (pre ++ i :: post) = true → (∀ a ∈ pre, a ≠ i ∧ (inR R i a = true ∨ ∀ x, ops[a]? = some x → commO P x o = true)) ∧ okPr P ops R (pre ++ post) = true ∧ (∀ b ∈ post, i ≠ b) := by
        intro pre
        induction pre with
        | nil =>
          intro hp
          simp only [List.nil_append, okPr, Bool.and_eq_true, List.all_eq_true, Bool.not_eq_true'] at hp
          refine ⟨fun a ha => by simp at ha, hp.2, fun b hb hh => ?_⟩
          have := (hp.1 b hb).2.1
          rw [beq_iff.2 hh] at this
          cases this
        | cons a pre ihp =>
          intro hp
          simp only [List.cons_append, okPr, Bool.and_eq_true, List.all_eq_true] at hp
          obtain ⟨q1, q2, q3⟩ := ihp hp.2
          refine ⟨fun x hx => ?_, ?_, q3⟩
          · rcases List.mem_cons.1 hx with rfl | hx
            · have h1 := (hp.1 i (by simp)).2
              refine ⟨fun hh => ?_, ?_⟩
              · have := h1.1
                rw [beq_iff.2 hh] at this
                cases this
              · have h2 := h1.2
                rw [Bool.or_eq_true] at h2
                refine h2.imp id fun h2 y hy => ?_
                rw [hy, ho] at h2
                exact h2
            · exact q1 x hx
          · simp only [List.cons_append, okPr, Bool.and_eq_true, List.all_eq_true]
            refine ⟨fun x hx => hp.1 x ?_, q2⟩
            rcases List.mem_append.1 hx with hx | hx
            · simp [hx]
            · simp [hx]
      obtain ⟨q1, q2, q3⟩ := hsplit pre hp
      have hnin : i ∉ pre ++ post := by
        intro hh
        rcases List.mem_append.1 hh with hh | hh
        · exact (q1 i hh).1 rfl
        · exact q3 i hh rfl
      have hreach : ∀ a, inR R i a = true → a ∉ pre ++ i :: post := by
        intro a ha
        have hR' := List.all_eq_true.1 hR i (List.mem_range.2 his)
        have hR2 := List.all_eq_true.1 hR' a (inR_iff.1 ha)
        rw [ho] at hR2
        obtain ⟨e, he, hb⟩ := List.any_eq_true.1 hR2
        simp only [Bool.and_eq_true, Bool.or_eq_true] at hb
        have he' : e ∈ o.after := by simpa using he
        have hli := haft e he' hb.1
        have hlt : e.on < ops.size := by
          have hE' := List.all_eq_true.1 hE i (List.mem_range.2 his)
          rw [ho] at hE'
          have hE2 := List.all_eq_true.1 hE' e he
          rw [hb.1] at hE2
          simp only [Bool.not_true, Bool.false_or, Bool.and_eq_true] at hE2
          exact Nat.le_of_ble_eq_true hE2.1
        have hnot := hlist e.on hlt false hli
        rcases hb.2 with h1 | h1
        · rw [beq_iff.1 h1] at hnot; exact hnot
        · exact hc e.on hlt hnot a h1
      refine ⟨o, ho, ?_⟩
      have hpick : pickO ops (pre ++ i :: post) = pickO ops pre ++ o :: pickO ops post := by
        simp only [pickO, List.filterMap_append, List.filterMap_cons, ho]
      rw [hpick] at hw
      have hw2 := wops_front hA (pre := pickO ops pre) (fun a ha => by
        simp only [pickO, List.mem_filterMap] at ha
        obtain ⟨j, hj, hja⟩ := ha
        rcases (q1 j hj).2 with h1 | h1
        · exact (hreach j h1 (by simp [hj])).elim
        · exact h1 a hja) hw
      rw [wops_cons] at hw2
      refine wops_mono hA (fun ρ' h' hh => ?_) hw2
      refine ih (pre ++ post) _ ρ' h' (by simp only [List.length_append, List.length_cons] at hk ⊢; omega) q2 (fun j hj => hs j ?_) (fun j hj => ?_) (fun j hj hjn a ha => ?_) (by simpa [pickO] using hh)
      · rcases List.mem_append.1 hj with hj | hj <;> simp [hj]
      · by_cases hij : i = j
        · subst hij
          have hsz : i < listed.size := by
            have := hl i his
            rcases Nat.lt_or_ge i listed.size with h1 | h1
            · exact h1
            · rw [Array.getElem?_eq_none h1] at this; cases this
          rw [Array.getElem?_setIfInBounds_self_of_lt hsz]
          simpa using hnin
        · rw [Array.getElem?_setIfInBounds_ne hij, hl j hj]
          congr 1
          simp only [List.mem_append, List.mem_cons, Ne.symm hij, false_or]
      · have hsub : ∀ a, a ∉ pre ++ i :: post → a ∉ pre ++ post := fun a hh h2 => hh (by rcases List.mem_append.1 h2 with h2 | h2 <;> simp [h2])
        by_cases hij : j = i
        · subst hij; exact hsub a (hreach a ha)
        · refine hsub a (hc j hj ?_ a ha)
          simp only [List.mem_append, List.mem_cons, not_or] at hjn ⊢
          exact ⟨hjn.1, hij, hjn.2⟩
/-- A region that draws its order, done in one order: what does not wait on another may be in any place. -/
theorem awp_draw (ord : List Nat) {d n id : Nat} {ops : Array Oper} {Q : Exit → Fr → Hp → Prop} {ρ : Fr} {h : Hp} (hm : P.follows .mixedOrders = true) (hok : okDraw P ops ord = true) (hw : wops P W0 (AC P W0 d) n ops (pickO ops ord) (Q .normal) ρ h) : awp P W0 (AC P W0 d) n (.region id ops true) Q ρ h := by
  simp only [okDraw, Bool.and_eq_true] at hok
  obtain ⟨h1, h2, h3, h4, h5, h6⟩ := hok
  have hlt : ∀ i ∈ ord, i < ops.size := fun i hi => Nat.le_of_ble_eq_true (List.all_eq_true.1 h6 i hi)
  have hall : ∀ i, i < ops.size → i ∈ ord := fun i hi => by
    obtain ⟨x, q1, q2⟩ := List.any_eq_true.1 (List.all_eq_true.1 h5 i (List.mem_range.2 hi))
    exact beq_iff.1 q2 ▸ q1
  refine ⟨hm, any_of (AC_mono d) h1 h2 ops.size ord _ ρ h (beq_iff.1 h4) h3 hlt (fun i hi => ?_) (fun i hi hn => (hn (hall i hi)).elim) hw⟩
  rw [Array.getElem?_replicate, if_pos hi]
  simp [hall i hi]
end
end Go.Proofs.AbM
