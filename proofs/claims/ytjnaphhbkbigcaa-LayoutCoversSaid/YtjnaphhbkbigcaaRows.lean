/-
  No cell of these rows narrows 'for every input' (looked for: loops, veiled, ifaces, maps, wideKeys, modest, calm, conditions, laid).
  DERIVED. THE GIVEN ROWS OF THIS SEAT. 4 by the template 'for every input the law returns true; each argument reads behind the call as it read before'; 0 by the template 'total and deterministic' (their statements: YtjnaphhbkbigcaaTotals.lean).
  GIVEN WITH THE SEED: the statements are not yours to turn. If you find one false, say at which input.
  Laid BY PROGRAM, IN A SANDBOX (cutbox-rows.mjs): the forced cells as the released guide's own fill.sh prints them over the translation f56e221684a6f6d1… (all of the seat's roots in one cut). By AI agents, Wed Nov 11 2026. No macro, syntax, notation, axiom, sorry.
-/
import Derived.Test.YtjnaphhbkbigcaaChecked
import GoSem.Claim
import GoSem.ClaimJoined
import GoSem.ClaimMapViews
import Derived.JoinedTies
import Derived.KernelRfl
namespace Go.Proofs.Ytjnaphhbkbigcaa
/- THE CELL 'sum', in the pinned program and in every row, IS THE sha256 OF THE DUMP (.gsa) THAT YtjnaphhbkbigcaaProg.lean LOADS. Nothing in Lean hashes anything: it is a label: what it is worth is what the hold of that sum in a sandbox is worth. -/
noncomputable def Try.pinned : Pinned := { name := "ytjnaphhbkbigcaa", sum := "f56e221684a6f6d13513965a7a42a0a75c6d574ea5a515285637f404811e34b6", checked := Try.checked }
namespace Rows
def none {H : Type} : Left H := { results := [], args := [] }

/-- 'pagecachelaw04.LayoutPlaces': WHATEVER THE INPUT: true; the input reads as it did. -/
def layoutPlacesSpec : ChangeSpec := { name := "layoutPlaces", fn := fun _ => fun
  | [d] => { results := [.lit (.bool true)], args := [d] }
  | _ => none }
def layoutPlacesRow : OpenClaim := { program := "ytjnaphhbkbigcaa", sum := "f56e221684a6f6d13513965a7a42a0a75c6d574ea5a515285637f404811e34b6", func := "pagecache/pagecachelaw04.LayoutPlaces", spec := "layoutPlaces", unfollowed := true, recurses := true, apart := false }
def LayoutPlacesSaid : Prop := layoutPlacesRow.holds Try.pinned (OpenSpec.ofChange layoutPlacesSpec)

/-- ITS FALSE NEIGHBOUR: 'it returns false'. Refute it at one input. -/
def layoutPlacesWrong : ChangeSpec := { name := "layoutPlaces", fn := fun _ => fun
  | [d] => { results := [.lit (.bool false)], args := [d] }
  | _ => none }
def LayoutPlacesWrongFalsely : Prop := layoutPlacesRow.holds Try.pinned (OpenSpec.ofChange layoutPlacesWrong)

/-- 'pagecachelaw04.LayoutRuns': WHATEVER THE INPUT: true; the input reads as it did. -/
def layoutRunsSpec : ChangeSpec := { name := "layoutRuns", fn := fun _ => fun
  | [d1, d2] => { results := [.lit (.bool true)], args := [d1, d2] }
  | _ => none }
def layoutRunsRow : OpenClaim := { program := "ytjnaphhbkbigcaa", sum := "f56e221684a6f6d13513965a7a42a0a75c6d574ea5a515285637f404811e34b6", func := "pagecache/pagecachelaw04.LayoutRuns", spec := "layoutRuns", unfollowed := true, recurses := true, apart := false }
def LayoutRunsSaid : Prop := layoutRunsRow.holds Try.pinned (OpenSpec.ofChange layoutRunsSpec)

/-- ITS FALSE NEIGHBOUR: 'it returns false'. Refute it at one input. -/
def layoutRunsWrong : ChangeSpec := { name := "layoutRuns", fn := fun _ => fun
  | [d1, d2] => { results := [.lit (.bool false)], args := [d1, d2] }
  | _ => none }
def LayoutRunsWrongFalsely : Prop := layoutRunsRow.holds Try.pinned (OpenSpec.ofChange layoutRunsWrong)

/-- 'pagecachelaw04.LayoutApart': WHATEVER THE INPUT: true; the input reads as it did. -/
def layoutApartSpec : ChangeSpec := { name := "layoutApart", fn := fun _ => fun
  | [d] => { results := [.lit (.bool true)], args := [d] }
  | _ => none }
def layoutApartRow : OpenClaim := { program := "ytjnaphhbkbigcaa", sum := "f56e221684a6f6d13513965a7a42a0a75c6d574ea5a515285637f404811e34b6", func := "pagecache/pagecachelaw04.LayoutApart", spec := "layoutApart", unfollowed := true, recurses := true, apart := false }
def LayoutApartSaid : Prop := layoutApartRow.holds Try.pinned (OpenSpec.ofChange layoutApartSpec)

/-- ITS FALSE NEIGHBOUR: 'it returns false'. Refute it at one input. -/
def layoutApartWrong : ChangeSpec := { name := "layoutApart", fn := fun _ => fun
  | [d] => { results := [.lit (.bool false)], args := [d] }
  | _ => none }
def LayoutApartWrongFalsely : Prop := layoutApartRow.holds Try.pinned (OpenSpec.ofChange layoutApartWrong)

/-- 'pagecachelaw04.LayoutCovers': WHATEVER THE INPUT: true; the input reads as it did. -/
def layoutCoversSpec : ChangeSpec := { name := "layoutCovers", fn := fun _ => fun
  | [d] => { results := [.lit (.bool true)], args := [d] }
  | _ => none }
def layoutCoversRow : OpenClaim := { program := "ytjnaphhbkbigcaa", sum := "f56e221684a6f6d13513965a7a42a0a75c6d574ea5a515285637f404811e34b6", func := "pagecache/pagecachelaw04.LayoutCovers", spec := "layoutCovers", unfollowed := true, recurses := true, apart := false }
def LayoutCoversSaid : Prop := layoutCoversRow.holds Try.pinned (OpenSpec.ofChange layoutCoversSpec)

/-- ITS FALSE NEIGHBOUR: 'it returns false'. Refute it at one input. -/
def layoutCoversWrong : ChangeSpec := { name := "layoutCovers", fn := fun _ => fun
  | [d] => { results := [.lit (.bool false)], args := [d] }
  | _ => none }
def LayoutCoversWrongFalsely : Prop := layoutCoversRow.holds Try.pinned (OpenSpec.ofChange layoutCoversWrong)

/- THE SECOND FORM. 'bulk': how many values and letters a reading holds, each counted each time it is reached (what is shared counts as often as it is met; a slice's spare places count too). A statement '..UptoSaid' is the law's where the arguments, and the package variables that the reading takes, are together of bulk at most 1048576: NARROWER than '..Said'. Prove '..Said' where nothing that the law and all that it calls make is longer than what came in: it says more and counts as full. Else prove '..UptoSaid'. A law counts once. -/
mutual
def uptoBulk {H : Type} : DataW H → Nat
  | .lit (.string bytes) => bytes.length + 1
  | .lit _ => 1
  | .nil => 1
  | .ptr d => uptoBulk d + 1
  | .slice elems spare => uptoBulkAll elems + uptoBulkAll spare + 1
  | .agg parts => uptoBulkAll parts + 1
  | .iface _ d => uptoBulk d + 1
  | .map entries => uptoBulkEntries entries + 1
  | .held _ => 1
def uptoBulkAll {H : Type} : List (DataW H) → Nat
  | [] => 0
  | d :: r => uptoBulk d + uptoBulkAll r
def uptoBulkEntries {H : Type} : List (Lit × DataW H) → Nat
  | [] => 0
  | x :: r => uptoBulkEntry x + uptoBulkEntries r
def uptoBulkEntry {H : Type} : Lit × DataW H → Nat
  | (.string bytes, d) => bytes.length + uptoBulk d + 1
  | (_, d) => uptoBulk d + 1
 end
def uptoSmall : (H : Type) → List (DataW H) → Bool := fun _ ds => decide (uptoBulkAll ds ≤ 1048576)
def OpenSpec.upto (s : _root_.Go.ChangeSpec) : _root_.Go.OpenSpec := { _root_.Go.OpenSpec.ofChange s with cond := some uptoSmall }

/-- 'pagecachelaw04.LayoutPlaces', WHERE WHAT IT READS IS OF BULK AT MOST 1048576: true; the input reads as it did. -/
def layoutPlacesUptoRow : OpenClaim := { program := "ytjnaphhbkbigcaa", sum := "f56e221684a6f6d13513965a7a42a0a75c6d574ea5a515285637f404811e34b6", func := "pagecache/pagecachelaw04.LayoutPlaces", spec := "layoutPlaces", unfollowed := true, recurses := true, apart := false, narrowed := true }
def LayoutPlacesUptoSaid : Prop := layoutPlacesUptoRow.holds Try.pinned (OpenSpec.upto layoutPlacesSpec)

/-- 'pagecachelaw04.LayoutRuns', WHERE WHAT IT READS IS OF BULK AT MOST 1048576: true; the input reads as it did. -/
def layoutRunsUptoRow : OpenClaim := { program := "ytjnaphhbkbigcaa", sum := "f56e221684a6f6d13513965a7a42a0a75c6d574ea5a515285637f404811e34b6", func := "pagecache/pagecachelaw04.LayoutRuns", spec := "layoutRuns", unfollowed := true, recurses := true, apart := false, narrowed := true }
def LayoutRunsUptoSaid : Prop := layoutRunsUptoRow.holds Try.pinned (OpenSpec.upto layoutRunsSpec)

/-- 'pagecachelaw04.LayoutApart', WHERE WHAT IT READS IS OF BULK AT MOST 1048576: true; the input reads as it did. -/
def layoutApartUptoRow : OpenClaim := { program := "ytjnaphhbkbigcaa", sum := "f56e221684a6f6d13513965a7a42a0a75c6d574ea5a515285637f404811e34b6", func := "pagecache/pagecachelaw04.LayoutApart", spec := "layoutApart", unfollowed := true, recurses := true, apart := false, narrowed := true }
def LayoutApartUptoSaid : Prop := layoutApartUptoRow.holds Try.pinned (OpenSpec.upto layoutApartSpec)

/-- 'pagecachelaw04.LayoutCovers', WHERE WHAT IT READS IS OF BULK AT MOST 1048576: true; the input reads as it did. -/
def layoutCoversUptoRow : OpenClaim := { program := "ytjnaphhbkbigcaa", sum := "f56e221684a6f6d13513965a7a42a0a75c6d574ea5a515285637f404811e34b6", func := "pagecache/pagecachelaw04.LayoutCovers", spec := "layoutCovers", unfollowed := true, recurses := true, apart := false, narrowed := true }
def LayoutCoversUptoSaid : Prop := layoutCoversUptoRow.holds Try.pinned (OpenSpec.upto layoutCoversSpec)

end Rows
end Go.Proofs.Ytjnaphhbkbigcaa
