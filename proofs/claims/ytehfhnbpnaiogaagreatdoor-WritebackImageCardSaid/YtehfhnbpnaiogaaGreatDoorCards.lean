/-
  DERIVED. GIVEN WITH THE SEED: THE CARDS: each row of YtehfhnbpnaiogaaGreatDoorRows.lean that lists a variable, with what it lists TIED to the program's text (the seventh form; the later family's looks); each row that meets fmt, with fmt's text TOLD by the authors' own Lean function (tested against real Go, not proved from fmt's source: count such statements apart). THE CARD IS WHAT COUNTS. Prove the row's statement (the work); the ties are given (YtehfhnbpnaiogaaGreatDoorTie.lean); close each card by the builder's one call (the guide's Derived/Test/ToyasCard.lean, 'card_holds'). Laid BY PROGRAM, IN A SANDBOX (cutbox-door.mjs). By AI agents, Wed Nov 11 2026. No macro, syntax, notation, axiom, sorry.
-/
import Derived.Test.YtehfhnbpnaiogaaGreatDoorRows
import GoSem.ClaimSeven
namespace Go.Proofs.YtehfhnbpnaiogaaGreatDoor
namespace Rows

/-- THE TIED CARD OF 'pagecachelaw41.WritebackPages'. -/
def writebackPagesCard : Claim7 := { stood := { row := writebackPagesRow, standIns := [], harness := (true, "05b7ddd8a83a0216eb25feb23bf72ba2676e7068fc5db8970ea76b966a80fa4a"), looks := false }, kinds := [], alts := [], laidByText := true, laidKinds := [.data, .data], laidTests := true, laidLooks := .later }
def WritebackPagesCardSaid : Prop := Claim7.holds Tryz.pinned (.plain (OpenSpec.ofChange writebackPagesSpec)) writebackPagesCard

/-- THE TIED CARD OF 'pagecachelaw41.WritebackInodes'. -/
def writebackInodesCard : Claim7 := { stood := { row := writebackInodesRow, standIns := [], harness := (true, "05b7ddd8a83a0216eb25feb23bf72ba2676e7068fc5db8970ea76b966a80fa4a"), looks := false }, kinds := [], alts := [], laidByText := true, laidKinds := [.data, .data], laidTests := true, laidLooks := .later }
def WritebackInodesCardSaid : Prop := Claim7.holds Tryz.pinned (.plain (OpenSpec.ofChange writebackInodesSpec)) writebackInodesCard

/-- THE TIED CARD OF 'pagecachelaw41.WritebackImage'. -/
def writebackImageCard : Claim7 := { stood := { row := writebackImageRow, standIns := [], harness := (true, "05b7ddd8a83a0216eb25feb23bf72ba2676e7068fc5db8970ea76b966a80fa4a"), looks := false }, kinds := [], alts := [], laidByText := true, laidKinds := [.data, .data], laidTests := true, laidLooks := .later }
def WritebackImageCardSaid : Prop := Claim7.holds Tryz.pinned (.plain (OpenSpec.ofChange writebackImageSpec)) writebackImageCard

/-- THE TIED CARD OF 'pagecachelaw41.WritebackOnce'. -/
def writebackOnceCard : Claim7 := { stood := { row := writebackOnceRow, standIns := [], harness := (true, "05b7ddd8a83a0216eb25feb23bf72ba2676e7068fc5db8970ea76b966a80fa4a"), looks := false }, kinds := [], alts := [], laidByText := true, laidKinds := [.data, .data], laidTests := true, laidLooks := .later }
def WritebackOnceCardSaid : Prop := Claim7.holds Tryz.pinned (.plain (OpenSpec.ofChange writebackOnceSpec)) writebackOnceCard

/-- THE SECOND FORM's CARD OF 'pagecachelaw41.WritebackPages'. -/
def writebackPagesUptoCard : Claim7 := { stood := { row := writebackPagesUptoRow, standIns := [], harness := (true, "05b7ddd8a83a0216eb25feb23bf72ba2676e7068fc5db8970ea76b966a80fa4a"), looks := false }, kinds := [], alts := [], laidByText := true, laidKinds := [.data, .data], laidTests := true, laidLooks := .later }
def WritebackPagesUptoCardSaid : Prop := Claim7.holds Tryz.pinned (.plain (OpenSpec.upto writebackPagesSpec)) writebackPagesUptoCard

/-- THE SECOND FORM's CARD OF 'pagecachelaw41.WritebackInodes'. -/
def writebackInodesUptoCard : Claim7 := { stood := { row := writebackInodesUptoRow, standIns := [], harness := (true, "05b7ddd8a83a0216eb25feb23bf72ba2676e7068fc5db8970ea76b966a80fa4a"), looks := false }, kinds := [], alts := [], laidByText := true, laidKinds := [.data, .data], laidTests := true, laidLooks := .later }
def WritebackInodesUptoCardSaid : Prop := Claim7.holds Tryz.pinned (.plain (OpenSpec.upto writebackInodesSpec)) writebackInodesUptoCard

/-- THE SECOND FORM's CARD OF 'pagecachelaw41.WritebackImage'. -/
def writebackImageUptoCard : Claim7 := { stood := { row := writebackImageUptoRow, standIns := [], harness := (true, "05b7ddd8a83a0216eb25feb23bf72ba2676e7068fc5db8970ea76b966a80fa4a"), looks := false }, kinds := [], alts := [], laidByText := true, laidKinds := [.data, .data], laidTests := true, laidLooks := .later }
def WritebackImageUptoCardSaid : Prop := Claim7.holds Tryz.pinned (.plain (OpenSpec.upto writebackImageSpec)) writebackImageUptoCard

/-- THE SECOND FORM's CARD OF 'pagecachelaw41.WritebackOnce'. -/
def writebackOnceUptoCard : Claim7 := { stood := { row := writebackOnceUptoRow, standIns := [], harness := (true, "05b7ddd8a83a0216eb25feb23bf72ba2676e7068fc5db8970ea76b966a80fa4a"), looks := false }, kinds := [], alts := [], laidByText := true, laidKinds := [.data, .data], laidTests := true, laidLooks := .later }
def WritebackOnceUptoCardSaid : Prop := Claim7.holds Tryz.pinned (.plain (OpenSpec.upto writebackOnceSpec)) writebackOnceUptoCard
end Rows
end Go.Proofs.YtehfhnbpnaiogaaGreatDoor
