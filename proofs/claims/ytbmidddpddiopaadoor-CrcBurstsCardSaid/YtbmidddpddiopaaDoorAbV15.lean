/- The machine of values: rows of one's own inside blocks, kept as they are from now on. -/
import Derived.Test.YtbmidddpddiopaaDoorAbV14
set_option linter.unusedVariables false
set_option linter.unusedSimpArgs false
namespace Go.Proofs.AbM
open Go.RowKit
theorem fzb_cell {h : VH} {k r l : Nat} {e2 : TypeId} {nl b : Bool} {bs pre post : List AV} (hr : h r = some (.cells e2 b (pre ++ .own k 0 l :: post))) (hne : r ≠ k) (i : Nat) : FzB k nl bs (hdel h k i) (hset (hdel h k) r (.cells e2 b (pre ++ .isl nl l bs :: post)) i) := by
  by_cases hi : i = r
  · subst hi
    rw [hdel_ne _ hne, hr, hset_at]
    refine .cells (by simp) fun j c c' h1 h2 => ?_
    rcases Nat.lt_trichotomy j pre.length with hj | hj | hj
    · rw [List.getElem?_append_left hj] at h1 h2
      rw [h1] at h2; cases h2; exact .refl _
    · subst hj
      rw [List.getElem?_append_right (Nat.le_refl _), Nat.sub_self] at h1 h2
      simp only [List.getElem?_cons_zero, Option.some.injEq] at h1 h2
      subst h1 h2; exact .own l
    · rw [List.getElem?_append_right (by omega)] at h1 h2
      obtain ⟨m, hm⟩ : ∃ m, j - pre.length = m + 1 := ⟨j - pre.length - 1, by omega⟩
      rw [hm, List.getElem?_cons_succ] at h1 h2
      rw [h1] at h2; cases h2; exact .refl _
  · rw [hset_ne _ _ hi]; exact .refl _
/-- A row that a cell of another block points to. -/
theorem Gst.frzc {X : VF → VH → Prop} {ρ : VF} {h : VH} (k r : Nat) {e e2 : TypeId} {nl b : Bool} {bs pre post : List AV} {l : Nat} (hk : h k = some (.cells e nl bs)) (hr : h r = some (.cells e2 b (pre ++ .own k 0 l :: post))) (hne : r ≠ k) (hX : Gst X ρ (hset (hdel h k) r (.cells e2 b (pre ++ .isl nl l bs :: post)))) : Gst X ρ h :=
  .frzh k hk (fun _ => .refl _) (fzb_cell hr hne) hX
theorem FrK.frzc {K : AV → VH → Prop} {v : AV} {h : VH} (k r : Nat) {e e2 : TypeId} {nl b : Bool} {bs pre post : List AV} {l : Nat} (hk : h k = some (.cells e nl bs)) (hr : h r = some (.cells e2 b (pre ++ .own k 0 l :: post))) (hne : r ≠ k) (hX : FrK K v (hset (hdel h k) r (.cells e2 b (pre ++ .isl nl l bs :: post)))) : FrK K v h :=
  .frzh k hk (.refl _) (fzb_cell hr hne) hX
/-- A box that nobody writes from now on; one that is let go. -/
theorem Gst.box {X : VF → VH → Prop} {ρ : VF} {h : VH} (i p : Nat) {e : TypeId} {cs : List AV} (hp : h p = none) (hi : ρ i = .op p 0) (hX : Gst X (updV ρ i (.ip cs 0)) h) : Gst X ρ (hset h p (.cells e false cs)) :=
  .frzp i p (hset_at _ _ _) hi (by rwa [hdel_hset hp])
theorem Gst.unbox {X : VF → VH → Prop} {ρ : VF} {h : VH} (p : Nat) {b : VB} (hp : h p = none) (hX : Gst X ρ h) : Gst X ρ (hset h p b) := .drop p (by rwa [hdel_hset hp])
theorem FrK.unbox {K : AV → VH → Prop} {v : AV} {h : VH} (p : Nat) {b : VB} (hp : h p = none) (hX : FrK K v h) : FrK K v (hset h p b) := .drop p (by rwa [hdel_hset hp])
/-- No pointer is no pointer. -/
theorem vBin_ppn {P : Program} {t : TypeId} {x y : Operand} {h : VH} {K : AV → Prop} (hu : isPt (P.underlying t) = true) (hK : K (.sc (.bool true))) : vBin P .eql t x y (.sc (.pointer none)) (.sc (.pointer none)) h K := by
  obtain ⟨e, he⟩ := isPt_iff.1 hu
  exact .inr (.inr ⟨true, e, rfl, .inr ⟨rfl, rfl, he⟩, .inl ⟨rfl, hK⟩⟩)
/-- What holds between a part and what is behind. -/
theorem vawp_midT {P : Program} {G : Nat → AV} {A : FuncId → List AV → VH → (AV → VH → Prop) → Prop} {n : Nat} {Q : Exit → VF → VH → Prop} {ρ : VF} {h : VH} {a : Code} {N : VF → VH → Prop} (R : VF → VH → Prop) (ha : ∀ K : VF → VH → Prop, (∀ ρ h, R ρ h → K ρ h) → vawp P G A n a (thenV K Q) ρ h) (hb : ∀ ρ h, R ρ h → N ρ h) : vawp P G A n a (thenV N Q) ρ h := ha _ hb
/-- Two boxes, filled one behind the other. -/
theorem hset_2x {h : VH} {p q : Nat} {a a' b b' : VB} (hn : q ≠ p) : hset (hset (hset (hset h p a) q b) p a') q b' = hset (hset h p a') q b' := by
  rw [hset_comm (Ne.symm hn), hset_hset, hset_hset]
theorem hset_fresh {h : VH} {p q : Nat} {a : VB} (hq : hset h p a q = none) : q ≠ p ∧ h q = none := by rwa [hset_none] at hq
end Go.Proofs.AbM
