/-
  DERIVED. GIVEN WITH THE SEED: THE CARDS: each row of YthhekebemmckcaaGreatDoorRows.lean that lists a variable, with what it lists TIED to the program's text (the seventh form; the later family's looks); each row that meets fmt, with fmt's text TOLD by the authors' own Lean function (tested against real Go, not proved from fmt's source: count such statements apart). THE CARD IS WHAT COUNTS. Prove the row's statement (the work); the ties are given (YthhekebemmckcaaGreatDoorTie.lean); close each card by the builder's one call (the guide's Derived/Test/ToyasCard.lean, 'card_holds'). Laid BY PROGRAM, IN A SANDBOX (cutbox-door.mjs). By AI agents, Wed Nov 11 2026. No macro, syntax, notation, axiom, sorry.
-/
import Derived.Test.YthhekebemmckcaaGreatDoorRows
import GoSem.ClaimSeven
namespace Go.Proofs.YthhekebemmckcaaGreatDoor
namespace Rows

/-- THE TIED CARD OF 'pagecachelaw43.SyncerSteps'. -/
def syncerStepsCard : Claim7 := { stood := { row := syncerStepsRow, standIns := [], harness := (true, "b0ed207428d2cab847d50efb014ded17e555151cf47c0d9a4451ff88326ad1b2"), looks := false }, kinds := [], alts := [], laidByText := true, laidKinds := [.data], laidTests := true, laidLooks := .later }
def SyncerStepsCardSaid : Prop := Claim7.holds Tryz.pinned (.plain (OpenSpec.ofChange syncerStepsSpec)) syncerStepsCard

/-- THE TIED CARD OF 'pagecachelaw43.SyncerEnds'. -/
def syncerEndsCard : Claim7 := { stood := { row := syncerEndsRow, standIns := [], harness := (true, "b0ed207428d2cab847d50efb014ded17e555151cf47c0d9a4451ff88326ad1b2"), looks := false }, kinds := [], alts := [], laidByText := true, laidKinds := [.data], laidTests := true, laidLooks := .later }
def SyncerEndsCardSaid : Prop := Claim7.holds Tryz.pinned (.plain (OpenSpec.ofChange syncerEndsSpec)) syncerEndsCard

/-- THE TIED CARD OF 'pagecachelaw43.SyncerLater'. -/
def syncerLaterCard : Claim7 := { stood := { row := syncerLaterRow, standIns := [], harness := (true, "b0ed207428d2cab847d50efb014ded17e555151cf47c0d9a4451ff88326ad1b2"), looks := false }, kinds := [], alts := [], laidByText := true, laidKinds := [.data], laidTests := true, laidLooks := .later }
def SyncerLaterCardSaid : Prop := Claim7.holds Tryz.pinned (.plain (OpenSpec.ofChange syncerLaterSpec)) syncerLaterCard

/-- THE SECOND FORM's CARD OF 'pagecachelaw43.SyncerSteps'. -/
def syncerStepsUptoCard : Claim7 := { stood := { row := syncerStepsUptoRow, standIns := [], harness := (true, "b0ed207428d2cab847d50efb014ded17e555151cf47c0d9a4451ff88326ad1b2"), looks := false }, kinds := [], alts := [], laidByText := true, laidKinds := [.data], laidTests := true, laidLooks := .later }
def SyncerStepsUptoCardSaid : Prop := Claim7.holds Tryz.pinned (.plain (OpenSpec.upto syncerStepsSpec)) syncerStepsUptoCard

/-- THE SECOND FORM's CARD OF 'pagecachelaw43.SyncerEnds'. -/
def syncerEndsUptoCard : Claim7 := { stood := { row := syncerEndsUptoRow, standIns := [], harness := (true, "b0ed207428d2cab847d50efb014ded17e555151cf47c0d9a4451ff88326ad1b2"), looks := false }, kinds := [], alts := [], laidByText := true, laidKinds := [.data], laidTests := true, laidLooks := .later }
def SyncerEndsUptoCardSaid : Prop := Claim7.holds Tryz.pinned (.plain (OpenSpec.upto syncerEndsSpec)) syncerEndsUptoCard

/-- THE SECOND FORM's CARD OF 'pagecachelaw43.SyncerLater'. -/
def syncerLaterUptoCard : Claim7 := { stood := { row := syncerLaterUptoRow, standIns := [], harness := (true, "b0ed207428d2cab847d50efb014ded17e555151cf47c0d9a4451ff88326ad1b2"), looks := false }, kinds := [], alts := [], laidByText := true, laidKinds := [.data], laidTests := true, laidLooks := .later }
def SyncerLaterUptoCardSaid : Prop := Claim7.holds Tryz.pinned (.plain (OpenSpec.upto syncerLaterSpec)) syncerLaterUptoCard
end Rows
end Go.Proofs.YthhekebemmckcaaGreatDoor
