/-
  No cell of these rows narrows 'for every input' (looked for: loops, veiled, ifaces, maps, wideKeys, modest, calm, conditions, laid).
  DERIVED. THE GIVEN ROWS OF THIS SEAT. 7 by the template 'for every input the law returns true; each argument reads behind the call as it read before'; 0 by the template 'total and deterministic' (their statements: YtdeggdbaeeamiaaTotals.lean).
  GIVEN WITH THE SEED: the statements are not yours to turn. If you find one false, say at which input.
  Laid BY PROGRAM, IN A SANDBOX (cutbox-rows.mjs): the forced cells as the released guide's own fill.sh prints them over the translation 4067700aca29c85d… (all of the seat's roots in one cut). By AI agents, Wed Nov 11 2026. No macro, syntax, notation, axiom, sorry.
-/
import Derived.Test.YtdeggdbaeeamiaaChecked
import GoSem.Claim
import GoSem.ClaimJoined
import GoSem.ClaimMapViews
import Derived.JoinedTies
import Derived.KernelRfl
namespace Go.Proofs.Ytdeggdbaeeamiaa
/- THE CELL 'sum', in the pinned program and in every row, IS THE sha256 OF THE DUMP (.gsa) THAT YtdeggdbaeeamiaaProg.lean LOADS. Nothing in Lean hashes anything: it is a label: what it is worth is what the hold of that sum in a sandbox is worth. -/
noncomputable def Try.pinned : Pinned := { name := "ytdeggdbaeeamiaa", sum := "4067700aca29c85d884eb282ef40db31a59a9eb60067ab28156ce11c536f3a7d", checked := Try.checked }
namespace Rows
def none {H : Type} : Left H := { results := [], args := [] }

/-- 'pagecachelaw23.VolumeCovers': WHATEVER THE INPUT: true; the input reads as it did. -/
def volumeCoversSpec : ChangeSpec := { name := "volumeCovers", fn := fun _ => fun
  | [d1, d2, d3] => { results := [.lit (.bool true)], args := [d1, d2, d3] }
  | _ => none }
def volumeCoversRow : OpenClaim := { program := "ytdeggdbaeeamiaa", sum := "4067700aca29c85d884eb282ef40db31a59a9eb60067ab28156ce11c536f3a7d", func := "pagecache/pagecachelaw23.VolumeCovers", spec := "volumeCovers", unfollowed := true, recurses := true, apart := false }
def VolumeCoversSaid : Prop := volumeCoversRow.holds Try.pinned (OpenSpec.ofChange volumeCoversSpec)

/-- ITS FALSE NEIGHBOUR: 'it returns false'. Refute it at one input. -/
def volumeCoversWrong : ChangeSpec := { name := "volumeCovers", fn := fun _ => fun
  | [d1, d2, d3] => { results := [.lit (.bool false)], args := [d1, d2, d3] }
  | _ => none }
def VolumeCoversWrongFalsely : Prop := volumeCoversRow.holds Try.pinned (OpenSpec.ofChange volumeCoversWrong)

/-- 'pagecachelaw23.VolumeDiffers': WHATEVER THE INPUT: true; the input reads as it did. -/
def volumeDiffersSpec : ChangeSpec := { name := "volumeDiffers", fn := fun _ => fun
  | [d1, d2, d3] => { results := [.lit (.bool true)], args := [d1, d2, d3] }
  | _ => none }
def volumeDiffersRow : OpenClaim := { program := "ytdeggdbaeeamiaa", sum := "4067700aca29c85d884eb282ef40db31a59a9eb60067ab28156ce11c536f3a7d", func := "pagecache/pagecachelaw23.VolumeDiffers", spec := "volumeDiffers", unfollowed := true, recurses := true, apart := false }
def VolumeDiffersSaid : Prop := volumeDiffersRow.holds Try.pinned (OpenSpec.ofChange volumeDiffersSpec)

/-- ITS FALSE NEIGHBOUR: 'it returns false'. Refute it at one input. -/
def volumeDiffersWrong : ChangeSpec := { name := "volumeDiffers", fn := fun _ => fun
  | [d1, d2, d3] => { results := [.lit (.bool false)], args := [d1, d2, d3] }
  | _ => none }
def VolumeDiffersWrongFalsely : Prop := volumeDiffersRow.holds Try.pinned (OpenSpec.ofChange volumeDiffersWrong)

/-- 'pagecachelaw23.VolumeStripes': WHATEVER THE INPUT: true; the input reads as it did. -/
def volumeStripesSpec : ChangeSpec := { name := "volumeStripes", fn := fun _ => fun
  | [d1, d2, d3, d4] => { results := [.lit (.bool true)], args := [d1, d2, d3, d4] }
  | _ => none }
def volumeStripesRow : OpenClaim := { program := "ytdeggdbaeeamiaa", sum := "4067700aca29c85d884eb282ef40db31a59a9eb60067ab28156ce11c536f3a7d", func := "pagecache/pagecachelaw23.VolumeStripes", spec := "volumeStripes", unfollowed := true, recurses := true, apart := false }
def VolumeStripesSaid : Prop := volumeStripesRow.holds Try.pinned (OpenSpec.ofChange volumeStripesSpec)

/-- ITS FALSE NEIGHBOUR: 'it returns false'. Refute it at one input. -/
def volumeStripesWrong : ChangeSpec := { name := "volumeStripes", fn := fun _ => fun
  | [d1, d2, d3, d4] => { results := [.lit (.bool false)], args := [d1, d2, d3, d4] }
  | _ => none }
def VolumeStripesWrongFalsely : Prop := volumeStripesRow.holds Try.pinned (OpenSpec.ofChange volumeStripesWrong)

/-- 'pagecachelaw23.VolumeParts': WHATEVER THE INPUT: true; the input reads as it did. -/
def volumePartsSpec : ChangeSpec := { name := "volumeParts", fn := fun _ => fun
  | [d1, d2, d3, d4] => { results := [.lit (.bool true)], args := [d1, d2, d3, d4] }
  | _ => none }
def volumePartsRow : OpenClaim := { program := "ytdeggdbaeeamiaa", sum := "4067700aca29c85d884eb282ef40db31a59a9eb60067ab28156ce11c536f3a7d", func := "pagecache/pagecachelaw23.VolumeParts", spec := "volumeParts", unfollowed := true, recurses := true, apart := false }
def VolumePartsSaid : Prop := volumePartsRow.holds Try.pinned (OpenSpec.ofChange volumePartsSpec)

/-- ITS FALSE NEIGHBOUR: 'it returns false'. Refute it at one input. -/
def volumePartsWrong : ChangeSpec := { name := "volumeParts", fn := fun _ => fun
  | [d1, d2, d3, d4] => { results := [.lit (.bool false)], args := [d1, d2, d3, d4] }
  | _ => none }
def VolumePartsWrongFalsely : Prop := volumePartsRow.holds Try.pinned (OpenSpec.ofChange volumePartsWrong)

/-- 'pagecachelaw23.VolumePlaces': WHATEVER THE INPUT: true; the input reads as it did. -/
def volumePlacesSpec : ChangeSpec := { name := "volumePlaces", fn := fun _ => fun
  | [d1, d2, d3, d4] => { results := [.lit (.bool true)], args := [d1, d2, d3, d4] }
  | _ => none }
def volumePlacesRow : OpenClaim := { program := "ytdeggdbaeeamiaa", sum := "4067700aca29c85d884eb282ef40db31a59a9eb60067ab28156ce11c536f3a7d", func := "pagecache/pagecachelaw23.VolumePlaces", spec := "volumePlaces", unfollowed := true, recurses := true, apart := false }
def VolumePlacesSaid : Prop := volumePlacesRow.holds Try.pinned (OpenSpec.ofChange volumePlacesSpec)

/-- ITS FALSE NEIGHBOUR: 'it returns false'. Refute it at one input. -/
def volumePlacesWrong : ChangeSpec := { name := "volumePlaces", fn := fun _ => fun
  | [d1, d2, d3, d4] => { results := [.lit (.bool false)], args := [d1, d2, d3, d4] }
  | _ => none }
def VolumePlacesWrongFalsely : Prop := volumePlacesRow.holds Try.pinned (OpenSpec.ofChange volumePlacesWrong)

/-- 'pagecachelaw23.VolumeExact': WHATEVER THE INPUT: true; the input reads as it did. -/
def volumeExactSpec : ChangeSpec := { name := "volumeExact", fn := fun _ => fun
  | [d1, d2, d3, d4, d5, d6] => { results := [.lit (.bool true)], args := [d1, d2, d3, d4, d5, d6] }
  | _ => none }
def volumeExactRow : OpenClaim := { program := "ytdeggdbaeeamiaa", sum := "4067700aca29c85d884eb282ef40db31a59a9eb60067ab28156ce11c536f3a7d", func := "pagecache/pagecachelaw23.VolumeExact", spec := "volumeExact", unfollowed := true, recurses := true, apart := false }
def VolumeExactSaid : Prop := volumeExactRow.holds Try.pinned (OpenSpec.ofChange volumeExactSpec)

/-- ITS FALSE NEIGHBOUR: 'it returns false'. Refute it at one input. -/
def volumeExactWrong : ChangeSpec := { name := "volumeExact", fn := fun _ => fun
  | [d1, d2, d3, d4, d5, d6] => { results := [.lit (.bool false)], args := [d1, d2, d3, d4, d5, d6] }
  | _ => none }
def VolumeExactWrongFalsely : Prop := volumeExactRow.holds Try.pinned (OpenSpec.ofChange volumeExactWrong)

/-- 'pagecachelaw23.VolumeSmall': WHATEVER THE INPUT: true; the input reads as it did. -/
def volumeSmallSpec : ChangeSpec := { name := "volumeSmall", fn := fun _ => fun
  | [d1, d2, d3, d4, d5, d6] => { results := [.lit (.bool true)], args := [d1, d2, d3, d4, d5, d6] }
  | _ => none }
def volumeSmallRow : OpenClaim := { program := "ytdeggdbaeeamiaa", sum := "4067700aca29c85d884eb282ef40db31a59a9eb60067ab28156ce11c536f3a7d", func := "pagecache/pagecachelaw23.VolumeSmall", spec := "volumeSmall", unfollowed := true, recurses := true, apart := false }
def VolumeSmallSaid : Prop := volumeSmallRow.holds Try.pinned (OpenSpec.ofChange volumeSmallSpec)

/-- ITS FALSE NEIGHBOUR: 'it returns false'. Refute it at one input. -/
def volumeSmallWrong : ChangeSpec := { name := "volumeSmall", fn := fun _ => fun
  | [d1, d2, d3, d4, d5, d6] => { results := [.lit (.bool false)], args := [d1, d2, d3, d4, d5, d6] }
  | _ => none }
def VolumeSmallWrongFalsely : Prop := volumeSmallRow.holds Try.pinned (OpenSpec.ofChange volumeSmallWrong)

/- THE SECOND FORM. 'bulk': how many values and letters a reading holds, each counted each time it is reached (what is shared counts as often as it is met; a slice's spare places count too). A statement '..UptoSaid' is the law's where the arguments, and the package variables that the reading takes, are together of bulk at most 1048576: NARROWER than '..Said'. Prove '..Said' where nothing that the law and all that it calls make is longer than what came in: it says more and counts as full. Else prove '..UptoSaid'. A law counts once. -/
mutual
def uptoBulk {H : Type} : DataW H → Nat
  | .lit (.string bytes) => bytes.length + 1
  | .lit _ => 1
  | .nil => 1
  | .ptr d => uptoBulk d + 1
  | .slice elems spare => uptoBulkAll elems + uptoBulkAll spare + 1
  | .agg parts => uptoBulkAll parts + 1
  | .iface _ d => uptoBulk d + 1
  | .map entries => uptoBulkEntries entries + 1
  | .held _ => 1
def uptoBulkAll {H : Type} : List (DataW H) → Nat
  | [] => 0
  | d :: r => uptoBulk d + uptoBulkAll r
def uptoBulkEntries {H : Type} : List (Lit × DataW H) → Nat
  | [] => 0
  | x :: r => uptoBulkEntry x + uptoBulkEntries r
def uptoBulkEntry {H : Type} : Lit × DataW H → Nat
  | (.string bytes, d) => bytes.length + uptoBulk d + 1
  | (_, d) => uptoBulk d + 1
 end
def uptoSmall : (H : Type) → List (DataW H) → Bool := fun _ ds => decide (uptoBulkAll ds ≤ 1048576)
def OpenSpec.upto (s : _root_.Go.ChangeSpec) : _root_.Go.OpenSpec := { _root_.Go.OpenSpec.ofChange s with cond := some uptoSmall }

/-- 'pagecachelaw23.VolumeCovers', WHERE WHAT IT READS IS OF BULK AT MOST 1048576: true; the input reads as it did. -/
def volumeCoversUptoRow : OpenClaim := { program := "ytdeggdbaeeamiaa", sum := "4067700aca29c85d884eb282ef40db31a59a9eb60067ab28156ce11c536f3a7d", func := "pagecache/pagecachelaw23.VolumeCovers", spec := "volumeCovers", unfollowed := true, recurses := true, apart := false, narrowed := true }
def VolumeCoversUptoSaid : Prop := volumeCoversUptoRow.holds Try.pinned (OpenSpec.upto volumeCoversSpec)

/-- 'pagecachelaw23.VolumeDiffers', WHERE WHAT IT READS IS OF BULK AT MOST 1048576: true; the input reads as it did. -/
def volumeDiffersUptoRow : OpenClaim := { program := "ytdeggdbaeeamiaa", sum := "4067700aca29c85d884eb282ef40db31a59a9eb60067ab28156ce11c536f3a7d", func := "pagecache/pagecachelaw23.VolumeDiffers", spec := "volumeDiffers", unfollowed := true, recurses := true, apart := false, narrowed := true }
def VolumeDiffersUptoSaid : Prop := volumeDiffersUptoRow.holds Try.pinned (OpenSpec.upto volumeDiffersSpec)

/-- 'pagecachelaw23.VolumeStripes', WHERE WHAT IT READS IS OF BULK AT MOST 1048576: true; the input reads as it did. -/
def volumeStripesUptoRow : OpenClaim := { program := "ytdeggdbaeeamiaa", sum := "4067700aca29c85d884eb282ef40db31a59a9eb60067ab28156ce11c536f3a7d", func := "pagecache/pagecachelaw23.VolumeStripes", spec := "volumeStripes", unfollowed := true, recurses := true, apart := false, narrowed := true }
def VolumeStripesUptoSaid : Prop := volumeStripesUptoRow.holds Try.pinned (OpenSpec.upto volumeStripesSpec)

/-- 'pagecachelaw23.VolumeParts', WHERE WHAT IT READS IS OF BULK AT MOST 1048576: true; the input reads as it did. -/
def volumePartsUptoRow : OpenClaim := { program := "ytdeggdbaeeamiaa", sum := "4067700aca29c85d884eb282ef40db31a59a9eb60067ab28156ce11c536f3a7d", func := "pagecache/pagecachelaw23.VolumeParts", spec := "volumeParts", unfollowed := true, recurses := true, apart := false, narrowed := true }
def VolumePartsUptoSaid : Prop := volumePartsUptoRow.holds Try.pinned (OpenSpec.upto volumePartsSpec)

/-- 'pagecachelaw23.VolumePlaces', WHERE WHAT IT READS IS OF BULK AT MOST 1048576: true; the input reads as it did. -/
def volumePlacesUptoRow : OpenClaim := { program := "ytdeggdbaeeamiaa", sum := "4067700aca29c85d884eb282ef40db31a59a9eb60067ab28156ce11c536f3a7d", func := "pagecache/pagecachelaw23.VolumePlaces", spec := "volumePlaces", unfollowed := true, recurses := true, apart := false, narrowed := true }
def VolumePlacesUptoSaid : Prop := volumePlacesUptoRow.holds Try.pinned (OpenSpec.upto volumePlacesSpec)

/-- 'pagecachelaw23.VolumeExact', WHERE WHAT IT READS IS OF BULK AT MOST 1048576: true; the input reads as it did. -/
def volumeExactUptoRow : OpenClaim := { program := "ytdeggdbaeeamiaa", sum := "4067700aca29c85d884eb282ef40db31a59a9eb60067ab28156ce11c536f3a7d", func := "pagecache/pagecachelaw23.VolumeExact", spec := "volumeExact", unfollowed := true, recurses := true, apart := false, narrowed := true }
def VolumeExactUptoSaid : Prop := volumeExactUptoRow.holds Try.pinned (OpenSpec.upto volumeExactSpec)

/-- 'pagecachelaw23.VolumeSmall', WHERE WHAT IT READS IS OF BULK AT MOST 1048576: true; the input reads as it did. -/
def volumeSmallUptoRow : OpenClaim := { program := "ytdeggdbaeeamiaa", sum := "4067700aca29c85d884eb282ef40db31a59a9eb60067ab28156ce11c536f3a7d", func := "pagecache/pagecachelaw23.VolumeSmall", spec := "volumeSmall", unfollowed := true, recurses := true, apart := false, narrowed := true }
def VolumeSmallUptoSaid : Prop := volumeSmallUptoRow.holds Try.pinned (OpenSpec.upto volumeSmallSpec)

end Rows
end Go.Proofs.Ytdeggdbaeeamiaa
