/-
  NARROWER THAN 'FOR EVERY INPUT', by the rows' own cells (each row's printed sentence says how): SyncerSteps: laid · SyncerEnds: laid · SyncerLater: laid.
  DERIVED. THE GIVEN ROWS OF THIS SEAT. 3 by the template 'for every input the law returns true; each argument reads behind the call as it read before'; 0 by the template 'total and deterministic' (their statements: YthhekebemmckcaaGreatDoorTotals.lean).
  GIVEN WITH THE SEED: the statements are not yours to turn. If you find one false, say at which input.
  Laid BY PROGRAM, IN A SANDBOX (cutbox-rows.mjs): the forced cells as the released guide's own fill.sh prints them over the translation 9112895a9ba93cf3… (all of the seat's roots in one cut). By AI agents, Wed Nov 11 2026. No macro, syntax, notation, axiom, sorry.
-/
import Derived.Test.YthhekebemmckcaaGreatDoorChecked
import GoSem.Claim
import GoSem.ClaimJoined
import GoSem.ClaimMapViews
import Derived.JoinedTies
import Derived.KernelRfl
namespace Go.Proofs.YthhekebemmckcaaGreatDoor
/- THE CELL 'sum', in the pinned program and in every row, IS THE sha256 OF THE DUMP (.gsa) THAT YthhekebemmckcaaGreatDoorProg.lean LOADS. Nothing in Lean hashes anything: it is a label: what it is worth is what the hold of that sum in a sandbox is worth. -/
noncomputable def Tryz.pinned : Pinned := { name := "ythhekebemmckcaagreatdoor", sum := "9112895a9ba93cf3688b64c86755dee7f8bb8fb28ab178a41f2b1db32dfae879", checked := Tryz.checked }
namespace Rows
def none {H : Type} : Left H := { results := [], args := [] }

/- WHAT THE LISTED PACKAGE-LEVEL VARIABLES READ AS WHEN THE CALL BEGINS. Each datum BY PROGRAM (the guide's laid-datum.mjs) off the statement by which the dump's own 'gosem.cut.vars' lays the variable. In a bare row this is a premise. The card (YthhekebemmckcaaGreatDoorCards.lean) ties it to the program's text. -/
def laid_pagecache_syncer_bits {H : Type} : DataW H := .agg [.lit (.int .i64 1), .lit (.int .i64 2), .lit (.int .i64 4), .lit (.int .i64 8), .lit (.int .i64 16), .lit (.int .i64 32), .lit (.int .i64 64), .lit (.int .i64 128)]

/-- 'pagecachelaw43.SyncerSteps': WHATEVER THE INPUT: true; the input reads as it did. -/
def syncerStepsSpec : ChangeSpec := { name := "syncerSteps", fn := fun _ => fun
  | [d1, d2] => { results := [.lit (.bool true)], args := [d1, d2] }
  | _ => none }
def syncerStepsRow : OpenClaim := { program := "ythhekebemmckcaagreatdoor", sum := "9112895a9ba93cf3688b64c86755dee7f8bb8fb28ab178a41f2b1db32dfae879", func := "pagecache/pagecachelaw43.SyncerSteps", spec := "syncerSteps", unfollowed := true, recurses := true, named := ["pagecache/syncer.bits"], apart := false, laid := [("pagecache/syncer.bits", laid_pagecache_syncer_bits)] }
def SyncerStepsSaid : Prop := syncerStepsRow.holds Tryz.pinned (OpenSpec.ofChange syncerStepsSpec)

/-- ITS FALSE NEIGHBOUR: 'it returns false'. Refute it at one input. -/
def syncerStepsWrong : ChangeSpec := { name := "syncerSteps", fn := fun _ => fun
  | [d1, d2] => { results := [.lit (.bool false)], args := [d1, d2] }
  | _ => none }
def SyncerStepsWrongFalsely : Prop := syncerStepsRow.holds Tryz.pinned (OpenSpec.ofChange syncerStepsWrong)

/-- 'pagecachelaw43.SyncerEnds': WHATEVER THE INPUT: true; the input reads as it did. -/
def syncerEndsSpec : ChangeSpec := { name := "syncerEnds", fn := fun _ => fun
  | [d1, d2] => { results := [.lit (.bool true)], args := [d1, d2] }
  | _ => none }
def syncerEndsRow : OpenClaim := { program := "ythhekebemmckcaagreatdoor", sum := "9112895a9ba93cf3688b64c86755dee7f8bb8fb28ab178a41f2b1db32dfae879", func := "pagecache/pagecachelaw43.SyncerEnds", spec := "syncerEnds", unfollowed := true, recurses := true, named := ["pagecache/syncer.bits"], apart := false, laid := [("pagecache/syncer.bits", laid_pagecache_syncer_bits)] }
def SyncerEndsSaid : Prop := syncerEndsRow.holds Tryz.pinned (OpenSpec.ofChange syncerEndsSpec)

/-- ITS FALSE NEIGHBOUR: 'it returns false'. Refute it at one input. -/
def syncerEndsWrong : ChangeSpec := { name := "syncerEnds", fn := fun _ => fun
  | [d1, d2] => { results := [.lit (.bool false)], args := [d1, d2] }
  | _ => none }
def SyncerEndsWrongFalsely : Prop := syncerEndsRow.holds Tryz.pinned (OpenSpec.ofChange syncerEndsWrong)

/-- 'pagecachelaw43.SyncerLater': WHATEVER THE INPUT: true; the input reads as it did. -/
def syncerLaterSpec : ChangeSpec := { name := "syncerLater", fn := fun _ => fun
  | [d1, d2] => { results := [.lit (.bool true)], args := [d1, d2] }
  | _ => none }
def syncerLaterRow : OpenClaim := { program := "ythhekebemmckcaagreatdoor", sum := "9112895a9ba93cf3688b64c86755dee7f8bb8fb28ab178a41f2b1db32dfae879", func := "pagecache/pagecachelaw43.SyncerLater", spec := "syncerLater", unfollowed := true, recurses := true, named := ["pagecache/syncer.bits"], apart := false, laid := [("pagecache/syncer.bits", laid_pagecache_syncer_bits)] }
def SyncerLaterSaid : Prop := syncerLaterRow.holds Tryz.pinned (OpenSpec.ofChange syncerLaterSpec)

/-- ITS FALSE NEIGHBOUR: 'it returns false'. Refute it at one input. -/
def syncerLaterWrong : ChangeSpec := { name := "syncerLater", fn := fun _ => fun
  | [d1, d2] => { results := [.lit (.bool false)], args := [d1, d2] }
  | _ => none }
def SyncerLaterWrongFalsely : Prop := syncerLaterRow.holds Tryz.pinned (OpenSpec.ofChange syncerLaterWrong)

/- THE SECOND FORM. 'bulk': how many values and letters a reading holds, each counted each time it is reached (what is shared counts as often as it is met; a slice's spare places count too). A statement '..UptoSaid' is the law's where the arguments, and the package variables that the reading takes, are together of bulk at most 1048576: NARROWER than '..Said'. Prove '..Said' where nothing that the law and all that it calls make is longer than what came in: it says more and counts as full. Else prove '..UptoSaid'. A law counts once. -/
mutual
def uptoBulk {H : Type} : DataW H → Nat
  | .lit (.string bytes) => bytes.length + 1
  | .lit _ => 1
  | .nil => 1
  | .ptr d => uptoBulk d + 1
  | .slice elems spare => uptoBulkAll elems + uptoBulkAll spare + 1
  | .agg parts => uptoBulkAll parts + 1
  | .iface _ d => uptoBulk d + 1
  | .map entries => uptoBulkEntries entries + 1
  | .held _ => 1
def uptoBulkAll {H : Type} : List (DataW H) → Nat
  | [] => 0
  | d :: r => uptoBulk d + uptoBulkAll r
def uptoBulkEntries {H : Type} : List (Lit × DataW H) → Nat
  | [] => 0
  | x :: r => uptoBulkEntry x + uptoBulkEntries r
def uptoBulkEntry {H : Type} : Lit × DataW H → Nat
  | (.string bytes, d) => bytes.length + uptoBulk d + 1
  | (_, d) => uptoBulk d + 1
 end
def uptoSmall : (H : Type) → List (DataW H) → Bool := fun _ ds => decide (uptoBulkAll ds ≤ 1048576)
def OpenSpec.upto (s : _root_.Go.ChangeSpec) : _root_.Go.OpenSpec := { _root_.Go.OpenSpec.ofChange s with cond := some uptoSmall }

/-- 'pagecachelaw43.SyncerSteps', WHERE WHAT IT READS IS OF BULK AT MOST 1048576: true; the input reads as it did. -/
def syncerStepsUptoRow : OpenClaim := { program := "ythhekebemmckcaagreatdoor", sum := "9112895a9ba93cf3688b64c86755dee7f8bb8fb28ab178a41f2b1db32dfae879", func := "pagecache/pagecachelaw43.SyncerSteps", spec := "syncerSteps", unfollowed := true, recurses := true, named := ["pagecache/syncer.bits"], apart := false, laid := [("pagecache/syncer.bits", laid_pagecache_syncer_bits)], narrowed := true }
def SyncerStepsUptoSaid : Prop := syncerStepsUptoRow.holds Tryz.pinned (OpenSpec.upto syncerStepsSpec)

/-- 'pagecachelaw43.SyncerEnds', WHERE WHAT IT READS IS OF BULK AT MOST 1048576: true; the input reads as it did. -/
def syncerEndsUptoRow : OpenClaim := { program := "ythhekebemmckcaagreatdoor", sum := "9112895a9ba93cf3688b64c86755dee7f8bb8fb28ab178a41f2b1db32dfae879", func := "pagecache/pagecachelaw43.SyncerEnds", spec := "syncerEnds", unfollowed := true, recurses := true, named := ["pagecache/syncer.bits"], apart := false, laid := [("pagecache/syncer.bits", laid_pagecache_syncer_bits)], narrowed := true }
def SyncerEndsUptoSaid : Prop := syncerEndsUptoRow.holds Tryz.pinned (OpenSpec.upto syncerEndsSpec)

/-- 'pagecachelaw43.SyncerLater', WHERE WHAT IT READS IS OF BULK AT MOST 1048576: true; the input reads as it did. -/
def syncerLaterUptoRow : OpenClaim := { program := "ythhekebemmckcaagreatdoor", sum := "9112895a9ba93cf3688b64c86755dee7f8bb8fb28ab178a41f2b1db32dfae879", func := "pagecache/pagecachelaw43.SyncerLater", spec := "syncerLater", unfollowed := true, recurses := true, named := ["pagecache/syncer.bits"], apart := false, laid := [("pagecache/syncer.bits", laid_pagecache_syncer_bits)], narrowed := true }
def SyncerLaterUptoSaid : Prop := syncerLaterUptoRow.holds Tryz.pinned (OpenSpec.upto syncerLaterSpec)

end Rows
end Go.Proofs.YthhekebemmckcaaGreatDoor
