/-
  No cell of these rows narrows 'for every input' (looked for: loops, veiled, ifaces, maps, wideKeys, modest, calm, conditions, laid).
  DERIVED. THE GIVEN ROWS OF THIS SEAT. 5 by the template 'for every input the law returns true; each argument reads behind the call as it read before'; 0 by the template 'total and deterministic' (their statements: YtehhdeafimomfaaTotals.lean).
  GIVEN WITH THE SEED: the statements are not yours to turn. If you find one false, say at which input.
  Laid BY PROGRAM, IN A SANDBOX (cutbox-rows.mjs): the forced cells as the released guide's own fill.sh prints them over the translation 5db914920229001d… (all of the seat's roots in one cut). By AI agents, Wed Nov 11 2026. No macro, syntax, notation, axiom, sorry.
-/
import Derived.Test.YtehhdeafimomfaaChecked
import GoSem.Claim
import GoSem.ClaimJoined
import GoSem.ClaimMapViews
import Derived.JoinedTies
import Derived.KernelRfl
namespace Go.Proofs.Ytehhdeafimomfaa
/- THE CELL 'sum', in the pinned program and in every row, IS THE sha256 OF THE DUMP (.gsa) THAT YtehhdeafimomfaaProg.lean LOADS. Nothing in Lean hashes anything: it is a label: what it is worth is what the hold of that sum in a sandbox is worth. -/
noncomputable def Try.pinned : Pinned := { name := "ytehhdeafimomfaa", sum := "5db914920229001dead90e5121600b23eb22a3960b033870e546d3d77b5170c8", checked := Try.checked }
namespace Rows
def none {H : Type} : Left H := { results := [], args := [] }

/-- 'pagecachelaw37.StatNotes': WHATEVER THE INPUT: true; the input reads as it did. -/
def statNotesSpec : ChangeSpec := { name := "statNotes", fn := fun _ => fun
  | [d] => { results := [.lit (.bool true)], args := [d] }
  | _ => none }
def statNotesRow : OpenClaim := { program := "ytehhdeafimomfaa", sum := "5db914920229001dead90e5121600b23eb22a3960b033870e546d3d77b5170c8", func := "pagecache/pagecachelaw37.StatNotes", spec := "statNotes", apart := false }
def StatNotesSaid : Prop := statNotesRow.holds Try.pinned (OpenSpec.ofChange statNotesSpec)

/-- ITS FALSE NEIGHBOUR: 'it returns false'. Refute it at one input. -/
def statNotesWrong : ChangeSpec := { name := "statNotes", fn := fun _ => fun
  | [d] => { results := [.lit (.bool false)], args := [d] }
  | _ => none }
def StatNotesWrongFalsely : Prop := statNotesRow.holds Try.pinned (OpenSpec.ofChange statNotesWrong)

/-- 'pagecachelaw37.StatOrder': WHATEVER THE INPUT: true; the input reads as it did. -/
def statOrderSpec : ChangeSpec := { name := "statOrder", fn := fun _ => fun
  | [d1, d2, d3, d4, d5] => { results := [.lit (.bool true)], args := [d1, d2, d3, d4, d5] }
  | _ => none }
def statOrderRow : OpenClaim := { program := "ytehhdeafimomfaa", sum := "5db914920229001dead90e5121600b23eb22a3960b033870e546d3d77b5170c8", func := "pagecache/pagecachelaw37.StatOrder", spec := "statOrder", apart := false }
def StatOrderSaid : Prop := statOrderRow.holds Try.pinned (OpenSpec.ofChange statOrderSpec)

/-- ITS FALSE NEIGHBOUR: 'it returns false'. Refute it at one input. -/
def statOrderWrong : ChangeSpec := { name := "statOrder", fn := fun _ => fun
  | [d1, d2, d3, d4, d5] => { results := [.lit (.bool false)], args := [d1, d2, d3, d4, d5] }
  | _ => none }
def StatOrderWrongFalsely : Prop := statOrderRow.holds Try.pinned (OpenSpec.ofChange statOrderWrong)

/-- 'pagecachelaw37.StatBuckets': WHATEVER THE INPUT: true; the input reads as it did. -/
def statBucketsSpec : ChangeSpec := { name := "statBuckets", fn := fun _ => fun
  | [d1, d2] => { results := [.lit (.bool true)], args := [d1, d2] }
  | _ => none }
def statBucketsRow : OpenClaim := { program := "ytehhdeafimomfaa", sum := "5db914920229001dead90e5121600b23eb22a3960b033870e546d3d77b5170c8", func := "pagecache/pagecachelaw37.StatBuckets", spec := "statBuckets", apart := false }
def StatBucketsSaid : Prop := statBucketsRow.holds Try.pinned (OpenSpec.ofChange statBucketsSpec)

/-- ITS FALSE NEIGHBOUR: 'it returns false'. Refute it at one input. -/
def statBucketsWrong : ChangeSpec := { name := "statBuckets", fn := fun _ => fun
  | [d1, d2] => { results := [.lit (.bool false)], args := [d1, d2] }
  | _ => none }
def StatBucketsWrongFalsely : Prop := statBucketsRow.holds Try.pinned (OpenSpec.ofChange statBucketsWrong)

/-- 'pagecachelaw37.StatExact': WHATEVER THE INPUT: true; the input reads as it did. -/
def statExactSpec : ChangeSpec := { name := "statExact", fn := fun _ => fun
  | [d1, d2, d3, d4, d5, d6, d7, d8] => { results := [.lit (.bool true)], args := [d1, d2, d3, d4, d5, d6, d7, d8] }
  | _ => none }
def statExactRow : OpenClaim := { program := "ytehhdeafimomfaa", sum := "5db914920229001dead90e5121600b23eb22a3960b033870e546d3d77b5170c8", func := "pagecache/pagecachelaw37.StatExact", spec := "statExact", apart := false }
def StatExactSaid : Prop := statExactRow.holds Try.pinned (OpenSpec.ofChange statExactSpec)

/-- ITS FALSE NEIGHBOUR: 'it returns false'. Refute it at one input. -/
def statExactWrong : ChangeSpec := { name := "statExact", fn := fun _ => fun
  | [d1, d2, d3, d4, d5, d6, d7, d8] => { results := [.lit (.bool false)], args := [d1, d2, d3, d4, d5, d6, d7, d8] }
  | _ => none }
def StatExactWrongFalsely : Prop := statExactRow.holds Try.pinned (OpenSpec.ofChange statExactWrong)

/-- 'pagecachelaw37.StatLags': WHATEVER THE INPUT: true; the input reads as it did. -/
def statLagsSpec : ChangeSpec := { name := "statLags", fn := fun _ => fun
  | [d1, d2, d3, d4] => { results := [.lit (.bool true)], args := [d1, d2, d3, d4] }
  | _ => none }
def statLagsRow : OpenClaim := { program := "ytehhdeafimomfaa", sum := "5db914920229001dead90e5121600b23eb22a3960b033870e546d3d77b5170c8", func := "pagecache/pagecachelaw37.StatLags", spec := "statLags", apart := false }
def StatLagsSaid : Prop := statLagsRow.holds Try.pinned (OpenSpec.ofChange statLagsSpec)

/-- ITS FALSE NEIGHBOUR: 'it returns false'. Refute it at one input. -/
def statLagsWrong : ChangeSpec := { name := "statLags", fn := fun _ => fun
  | [d1, d2, d3, d4] => { results := [.lit (.bool false)], args := [d1, d2, d3, d4] }
  | _ => none }
def StatLagsWrongFalsely : Prop := statLagsRow.holds Try.pinned (OpenSpec.ofChange statLagsWrong)

/- THE SECOND FORM. 'bulk': how many values and letters a reading holds, each counted each time it is reached (what is shared counts as often as it is met; a slice's spare places count too). A statement '..UptoSaid' is the law's where the arguments, and the package variables that the reading takes, are together of bulk at most 1048576: NARROWER than '..Said'. Prove '..Said' where nothing that the law and all that it calls make is longer than what came in: it says more and counts as full. Else prove '..UptoSaid'. A law counts once. -/
mutual
def uptoBulk {H : Type} : DataW H → Nat
  | .lit (.string bytes) => bytes.length + 1
  | .lit _ => 1
  | .nil => 1
  | .ptr d => uptoBulk d + 1
  | .slice elems spare => uptoBulkAll elems + uptoBulkAll spare + 1
  | .agg parts => uptoBulkAll parts + 1
  | .iface _ d => uptoBulk d + 1
  | .map entries => uptoBulkEntries entries + 1
  | .held _ => 1
def uptoBulkAll {H : Type} : List (DataW H) → Nat
  | [] => 0
  | d :: r => uptoBulk d + uptoBulkAll r
def uptoBulkEntries {H : Type} : List (Lit × DataW H) → Nat
  | [] => 0
  | x :: r => uptoBulkEntry x + uptoBulkEntries r
def uptoBulkEntry {H : Type} : Lit × DataW H → Nat
  | (.string bytes, d) => bytes.length + uptoBulk d + 1
  | (_, d) => uptoBulk d + 1
 end
def uptoSmall : (H : Type) → List (DataW H) → Bool := fun _ ds => decide (uptoBulkAll ds ≤ 1048576)
def OpenSpec.upto (s : _root_.Go.ChangeSpec) : _root_.Go.OpenSpec := { _root_.Go.OpenSpec.ofChange s with cond := some uptoSmall }

/-- 'pagecachelaw37.StatNotes', WHERE WHAT IT READS IS OF BULK AT MOST 1048576: true; the input reads as it did. -/
def statNotesUptoRow : OpenClaim := { program := "ytehhdeafimomfaa", sum := "5db914920229001dead90e5121600b23eb22a3960b033870e546d3d77b5170c8", func := "pagecache/pagecachelaw37.StatNotes", spec := "statNotes", apart := false, narrowed := true }
def StatNotesUptoSaid : Prop := statNotesUptoRow.holds Try.pinned (OpenSpec.upto statNotesSpec)

/-- 'pagecachelaw37.StatOrder', WHERE WHAT IT READS IS OF BULK AT MOST 1048576: true; the input reads as it did. -/
def statOrderUptoRow : OpenClaim := { program := "ytehhdeafimomfaa", sum := "5db914920229001dead90e5121600b23eb22a3960b033870e546d3d77b5170c8", func := "pagecache/pagecachelaw37.StatOrder", spec := "statOrder", apart := false, narrowed := true }
def StatOrderUptoSaid : Prop := statOrderUptoRow.holds Try.pinned (OpenSpec.upto statOrderSpec)

/-- 'pagecachelaw37.StatBuckets', WHERE WHAT IT READS IS OF BULK AT MOST 1048576: true; the input reads as it did. -/
def statBucketsUptoRow : OpenClaim := { program := "ytehhdeafimomfaa", sum := "5db914920229001dead90e5121600b23eb22a3960b033870e546d3d77b5170c8", func := "pagecache/pagecachelaw37.StatBuckets", spec := "statBuckets", apart := false, narrowed := true }
def StatBucketsUptoSaid : Prop := statBucketsUptoRow.holds Try.pinned (OpenSpec.upto statBucketsSpec)

/-- 'pagecachelaw37.StatExact', WHERE WHAT IT READS IS OF BULK AT MOST 1048576: true; the input reads as it did. -/
def statExactUptoRow : OpenClaim := { program := "ytehhdeafimomfaa", sum := "5db914920229001dead90e5121600b23eb22a3960b033870e546d3d77b5170c8", func := "pagecache/pagecachelaw37.StatExact", spec := "statExact", apart := false, narrowed := true }
def StatExactUptoSaid : Prop := statExactUptoRow.holds Try.pinned (OpenSpec.upto statExactSpec)

/-- 'pagecachelaw37.StatLags', WHERE WHAT IT READS IS OF BULK AT MOST 1048576: true; the input reads as it did. -/
def statLagsUptoRow : OpenClaim := { program := "ytehhdeafimomfaa", sum := "5db914920229001dead90e5121600b23eb22a3960b033870e546d3d77b5170c8", func := "pagecache/pagecachelaw37.StatLags", spec := "statLags", apart := false, narrowed := true }
def StatLagsUptoSaid : Prop := statLagsUptoRow.holds Try.pinned (OpenSpec.upto statLagsSpec)

end Rows
end Go.Proofs.Ytehhdeafimomfaa
