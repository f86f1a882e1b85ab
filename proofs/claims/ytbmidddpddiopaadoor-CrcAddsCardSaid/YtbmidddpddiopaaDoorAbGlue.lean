/- From what the machine tells of a law to its row. -/
import Derived.Test.YtbmidddpddiopaaDoorAbRow
import Derived.Test.YtbmidddpddiopaaDoorAbObj
set_option linter.unusedVariables false
namespace Go.Proofs.AbM
open Go.RowKit
theorem law_calls {P : Program} {W0 : World} {d : Nat} {f : FuncId} {ws : List Value} {args : Array Value} (hc : AC P W0 d f ws [] (fun v _ => v = .bool true)) (hv : VRs W0.heap.size [] ws args.toList) :
    Calls P f args W0 fun e W' => e = .returned (.bool true) ∧ Below W0.heap.size W0 W' :=
  (AC_sound d f ws [] _ hc [] args W0 (Rel.refl P W0) hv).2.mono fun e W' ⟨v, v', h', m', he, hK, _, hR, hb⟩ => by
    subst hK
    exact ⟨by rw [he, hb.bool_inv], hR.below⟩
theorem SlG.ints {W0 : World} {h : Hp} {k : IntKind} {v : Value} {xs : List Int} (hs : SlG W0 h 1 (EInt k) v xs) : SlI W0 h k v xs ∧ ∀ x ∈ xs, (Lit.int k x).wf = true := by
  refine ⟨hs.imp fun x vs he => he.1, fun x hx => ?_⟩
  obtain ⟨i, hi⟩ := List.getElem?_of_mem hx
  obtain ⟨a, c, _, _, hr⟩ := hs
  obtain ⟨ad, vs, _, _, he⟩ := hr i x hi
  exact he.2
end Go.Proofs.AbM
