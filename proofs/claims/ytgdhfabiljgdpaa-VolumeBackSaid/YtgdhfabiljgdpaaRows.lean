/-
  No cell of these rows narrows 'for every input' (looked for: loops, veiled, ifaces, maps, wideKeys, modest, calm, conditions, laid).
  DERIVED. THE GIVEN ROWS OF THIS SEAT. 4 by the template 'for every input the law returns true; each argument reads behind the call as it read before'; 0 by the template 'total and deterministic' (their statements: YtgdhfabiljgdpaaTotals.lean).
  GIVEN WITH THE SEED: the statements are not yours to turn. If you find one false, say at which input.
  Laid BY PROGRAM, IN A SANDBOX (cutbox-rows.mjs): the forced cells as the released guide's own fill.sh prints them over the translation ff68d6db59ce499f… (all of the seat's roots in one cut). By AI agents, Wed Nov 11 2026. No macro, syntax, notation, axiom, sorry.
-/
import Derived.Test.YtgdhfabiljgdpaaChecked
import GoSem.Claim
import GoSem.ClaimJoined
import GoSem.ClaimMapViews
import Derived.JoinedTies
import Derived.KernelRfl
namespace Go.Proofs.Ytgdhfabiljgdpaa
/- THE CELL 'sum', in the pinned program and in every row, IS THE sha256 OF THE DUMP (.gsa) THAT YtgdhfabiljgdpaaProg.lean LOADS. Nothing in Lean hashes anything: it is a label: what it is worth is what the hold of that sum in a sandbox is worth. -/
noncomputable def Try.pinned : Pinned := { name := "ytgdhfabiljgdpaa", sum := "ff68d6db59ce499fbc735bcf5eab828b72ab1da6cc37bf4c71f9f2a83785c5f1", checked := Try.checked }
namespace Rows
def none {H : Type} : Left H := { results := [], args := [] }

/-- 'footlockerlaw21.VolumeTables': WHATEVER THE INPUT: true; the input reads as it did. -/
def volumeTablesSpec : ChangeSpec := { name := "volumeTables", fn := fun _ => fun
  | [d1, d2, d3] => { results := [.lit (.bool true)], args := [d1, d2, d3] }
  | _ => none }
def volumeTablesRow : OpenClaim := { program := "ytgdhfabiljgdpaa", sum := "ff68d6db59ce499fbc735bcf5eab828b72ab1da6cc37bf4c71f9f2a83785c5f1", func := "footlocker/footlockerlaw21.VolumeTables", spec := "volumeTables", unfollowed := true, recurses := true, apart := false }
def VolumeTablesSaid : Prop := volumeTablesRow.holds Try.pinned (OpenSpec.ofChange volumeTablesSpec)

/-- ITS FALSE NEIGHBOUR: 'it returns false'. Refute it at one input. -/
def volumeTablesWrong : ChangeSpec := { name := "volumeTables", fn := fun _ => fun
  | [d1, d2, d3] => { results := [.lit (.bool false)], args := [d1, d2, d3] }
  | _ => none }
def VolumeTablesWrongFalsely : Prop := volumeTablesRow.holds Try.pinned (OpenSpec.ofChange volumeTablesWrong)

/-- 'footlockerlaw21.VolumeBack': WHATEVER THE INPUT: true; the input reads as it did. -/
def volumeBackSpec : ChangeSpec := { name := "volumeBack", fn := fun _ => fun
  | [d1, d2] => { results := [.lit (.bool true)], args := [d1, d2] }
  | _ => none }
def volumeBackRow : OpenClaim := { program := "ytgdhfabiljgdpaa", sum := "ff68d6db59ce499fbc735bcf5eab828b72ab1da6cc37bf4c71f9f2a83785c5f1", func := "footlocker/footlockerlaw21.VolumeBack", spec := "volumeBack", unfollowed := true, recurses := true, apart := false }
def VolumeBackSaid : Prop := volumeBackRow.holds Try.pinned (OpenSpec.ofChange volumeBackSpec)

/-- ITS FALSE NEIGHBOUR: 'it returns false'. Refute it at one input. -/
def volumeBackWrong : ChangeSpec := { name := "volumeBack", fn := fun _ => fun
  | [d1, d2] => { results := [.lit (.bool false)], args := [d1, d2] }
  | _ => none }
def VolumeBackWrongFalsely : Prop := volumeBackRow.holds Try.pinned (OpenSpec.ofChange volumeBackWrong)

/-- 'footlockerlaw21.VolumeCuts': WHATEVER THE INPUT: true; the input reads as it did. -/
def volumeCutsSpec : ChangeSpec := { name := "volumeCuts", fn := fun _ => fun
  | [d1, d2, d3, d4] => { results := [.lit (.bool true)], args := [d1, d2, d3, d4] }
  | _ => none }
def volumeCutsRow : OpenClaim := { program := "ytgdhfabiljgdpaa", sum := "ff68d6db59ce499fbc735bcf5eab828b72ab1da6cc37bf4c71f9f2a83785c5f1", func := "footlocker/footlockerlaw21.VolumeCuts", spec := "volumeCuts", unfollowed := true, recurses := true, apart := false }
def VolumeCutsSaid : Prop := volumeCutsRow.holds Try.pinned (OpenSpec.ofChange volumeCutsSpec)

/-- ITS FALSE NEIGHBOUR: 'it returns false'. Refute it at one input. -/
def volumeCutsWrong : ChangeSpec := { name := "volumeCuts", fn := fun _ => fun
  | [d1, d2, d3, d4] => { results := [.lit (.bool false)], args := [d1, d2, d3, d4] }
  | _ => none }
def VolumeCutsWrongFalsely : Prop := volumeCutsRow.holds Try.pinned (OpenSpec.ofChange volumeCutsWrong)

/-- 'footlockerlaw21.VolumeSames': WHATEVER THE INPUT: true; the input reads as it did. -/
def volumeSamesSpec : ChangeSpec := { name := "volumeSames", fn := fun _ => fun
  | [d1, d2] => { results := [.lit (.bool true)], args := [d1, d2] }
  | _ => none }
def volumeSamesRow : OpenClaim := { program := "ytgdhfabiljgdpaa", sum := "ff68d6db59ce499fbc735bcf5eab828b72ab1da6cc37bf4c71f9f2a83785c5f1", func := "footlocker/footlockerlaw21.VolumeSames", spec := "volumeSames", unfollowed := true, recurses := true, apart := false }
def VolumeSamesSaid : Prop := volumeSamesRow.holds Try.pinned (OpenSpec.ofChange volumeSamesSpec)

/-- ITS FALSE NEIGHBOUR: 'it returns false'. Refute it at one input. -/
def volumeSamesWrong : ChangeSpec := { name := "volumeSames", fn := fun _ => fun
  | [d1, d2] => { results := [.lit (.bool false)], args := [d1, d2] }
  | _ => none }
def VolumeSamesWrongFalsely : Prop := volumeSamesRow.holds Try.pinned (OpenSpec.ofChange volumeSamesWrong)

/- THE SECOND FORM. 'bulk': how many values and letters a reading holds, each counted each time it is reached (what is shared counts as often as it is met; a slice's spare places count too). A statement '..UptoSaid' is the law's where the arguments, and the package variables that the reading takes, are together of bulk at most 1048576: NARROWER than '..Said'. Prove '..Said' where nothing that the law and all that it calls make is longer than what came in: it says more and counts as full. Else prove '..UptoSaid'. A law counts once. -/
mutual
def uptoBulk {H : Type} : DataW H → Nat
  | .lit (.string bytes) => bytes.length + 1
  | .lit _ => 1
  | .nil => 1
  | .ptr d => uptoBulk d + 1
  | .slice elems spare => uptoBulkAll elems + uptoBulkAll spare + 1
  | .agg parts => uptoBulkAll parts + 1
  | .iface _ d => uptoBulk d + 1
  | .map entries => uptoBulkEntries entries + 1
  | .held _ => 1
def uptoBulkAll {H : Type} : List (DataW H) → Nat
  | [] => 0
  | d :: r => uptoBulk d + uptoBulkAll r
def uptoBulkEntries {H : Type} : List (Lit × DataW H) → Nat
  | [] => 0
  | x :: r => uptoBulkEntry x + uptoBulkEntries r
def uptoBulkEntry {H : Type} : Lit × DataW H → Nat
  | (.string bytes, d) => bytes.length + uptoBulk d + 1
  | (_, d) => uptoBulk d + 1
 end
def uptoSmall : (H : Type) → List (DataW H) → Bool := fun _ ds => decide (uptoBulkAll ds ≤ 1048576)
def OpenSpec.upto (s : _root_.Go.ChangeSpec) : _root_.Go.OpenSpec := { _root_.Go.OpenSpec.ofChange s with cond := some uptoSmall }

/-- 'footlockerlaw21.VolumeTables', WHERE WHAT IT READS IS OF BULK AT MOST 1048576: true; the input reads as it did. -/
def volumeTablesUptoRow : OpenClaim := { program := "ytgdhfabiljgdpaa", sum := "ff68d6db59ce499fbc735bcf5eab828b72ab1da6cc37bf4c71f9f2a83785c5f1", func := "footlocker/footlockerlaw21.VolumeTables", spec := "volumeTables", unfollowed := true, recurses := true, apart := false, narrowed := true }
def VolumeTablesUptoSaid : Prop := volumeTablesUptoRow.holds Try.pinned (OpenSpec.upto volumeTablesSpec)

/-- 'footlockerlaw21.VolumeBack', WHERE WHAT IT READS IS OF BULK AT MOST 1048576: true; the input reads as it did. -/
def volumeBackUptoRow : OpenClaim := { program := "ytgdhfabiljgdpaa", sum := "ff68d6db59ce499fbc735bcf5eab828b72ab1da6cc37bf4c71f9f2a83785c5f1", func := "footlocker/footlockerlaw21.VolumeBack", spec := "volumeBack", unfollowed := true, recurses := true, apart := false, narrowed := true }
def VolumeBackUptoSaid : Prop := volumeBackUptoRow.holds Try.pinned (OpenSpec.upto volumeBackSpec)

/-- 'footlockerlaw21.VolumeCuts', WHERE WHAT IT READS IS OF BULK AT MOST 1048576: true; the input reads as it did. -/
def volumeCutsUptoRow : OpenClaim := { program := "ytgdhfabiljgdpaa", sum := "ff68d6db59ce499fbc735bcf5eab828b72ab1da6cc37bf4c71f9f2a83785c5f1", func := "footlocker/footlockerlaw21.VolumeCuts", spec := "volumeCuts", unfollowed := true, recurses := true, apart := false, narrowed := true }
def VolumeCutsUptoSaid : Prop := volumeCutsUptoRow.holds Try.pinned (OpenSpec.upto volumeCutsSpec)

/-- 'footlockerlaw21.VolumeSames', WHERE WHAT IT READS IS OF BULK AT MOST 1048576: true; the input reads as it did. -/
def volumeSamesUptoRow : OpenClaim := { program := "ytgdhfabiljgdpaa", sum := "ff68d6db59ce499fbc735bcf5eab828b72ab1da6cc37bf4c71f9f2a83785c5f1", func := "footlocker/footlockerlaw21.VolumeSames", spec := "volumeSames", unfollowed := true, recurses := true, apart := false, narrowed := true }
def VolumeSamesUptoSaid : Prop := volumeSamesUptoRow.holds Try.pinned (OpenSpec.upto volumeSamesSpec)

end Rows
end Go.Proofs.Ytgdhfabiljgdpaa
