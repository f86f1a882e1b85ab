/- The machine of values: rows of one's own inside blocks, kept as they are from now on. -/
import Derived.Test.YtgdhfabiljgdpaaAbV14
set_option linter.unusedVariables false
set_option linter.unusedSimpArgs false
namespace Go.Proofs.AbM
open Go.RowKit
theorem fzb_cell {h : VH} {k r l : Nat} {e2 : TypeId} {nl b : Bool} {bs pre post : List AV} (hr : h r = some (.cells e2 b (pre ++ .own k 0 l :: post))) (hne : r ≠ k) (i : Nat) : FzB k nl bs (hdel h k i) (hset (hdel h k) r (.cells e2 b (pre ++ .isl nl l bs :: post)) i) := by
  by_cases hi : i = r
  · subst hi
    rw [hdel_ne _ hne, hr, hset_at]
    refine .cells (by simp) fun j c c' h1 h2 => ?_
    rcases Nat.lt_trichotomy j pre.length with hj | hj | hj
    · rw [List.getElem?_append_left hj] at h1 h2
      rw [h1] at h2; cases h2; exact .refl _
    · subst hj
      rw [List.getElem?_append_right (Nat.le_refl _), Nat.sub_self] at h1 h2
      simp only [List.getElem?_cons_zero, Option.some.injEq] at h1 h2
      subst h1 h2; exact .own l
    · rw [List.getElem?_append_right (by omega)] at h1 h2
      obtain ⟨m, hm⟩ : ∃ m, j - pre.length = m + 1 := ⟨j - pre.length - 1, by omega⟩
      rw [hm, List.getElem?_cons_succ] at h1 h2
      rw [h1] at h2; cases h2; exact .refl _
  · rw [hset_ne _ _ hi]; exact .refl _
/-- A row that a cell of another block points to. -/
theorem Gst.frzc {X : VF → VH → Prop} {ρ : VF} {h : VH} (k r : Nat) {e e2 : TypeId} {nl b : Bool} {bs pre post : List AV} {l : Nat} (hk : h k = some (.cells e nl bs)) (hr : h r = some (.cells e2 b (pre ++ .own k 0 l :: post))) (hne : r ≠ k) (hX : Gst X ρ (hset (hdel h k) r (.cells e2 b (pre ++ .isl nl l bs :: post)))) : Gst X ρ h :=
  .frzh k hk (fun _ => .refl _) (fzb_cell hr hne) hX
theorem FrK.frzc {K : AV → VH → Prop} {v : AV} {h : VH} (k r : Nat) {e e2 : TypeId} {nl b : Bool} {bs pre post : List AV} {l : Nat} (hk : h k = some (.cells e nl bs)) (hr : h r = some (.cells e2 b (pre ++ .own k 0 l :: post))) (hne : r ≠ k) (hX : FrK K v (hset (hdel h k) r (.cells e2 b (pre ++ .isl nl l bs :: post)))) : FrK K v h :=
  .frzh k hk (.refl _) (fzb_cell hr hne) hX
end Go.Proofs.AbM
