/-
  No cell of these rows narrows 'for every input' (looked for: loops, veiled, ifaces, maps, wideKeys, modest, calm, conditions, laid).
  DERIVED. THE GIVEN ROWS OF THIS SEAT. 5 by the template 'for every input the law returns true; each argument reads behind the call as it read before'; 0 by the template 'total and deterministic' (their statements: YtcgfffkfmnbneaaTotals.lean).
  GIVEN WITH THE SEED: the statements are not yours to turn. If you find one false, say at which input.
  Laid BY PROGRAM, IN A SANDBOX (cutbox-rows.mjs): the forced cells as the released guide's own fill.sh prints them over the translation c4f2399895d8abe9… (all of the seat's roots in one cut). By AI agents, Wed Nov 11 2026. No macro, syntax, notation, axiom, sorry.
-/
import Derived.Test.YtcgfffkfmnbneaaChecked
import GoSem.Claim
import GoSem.ClaimJoined
import GoSem.ClaimMapViews
import Derived.JoinedTies
import Derived.KernelRfl
namespace Go.Proofs.Ytcgfffkfmnbneaa
/- THE CELL 'sum', in the pinned program and in every row, IS THE sha256 OF THE DUMP (.gsa) THAT YtcgfffkfmnbneaaProg.lean LOADS. Nothing in Lean hashes anything: it is a label: what it is worth is what the hold of that sum in a sandbox is worth. -/
noncomputable def Try.pinned : Pinned := { name := "ytcgfffkfmnbneaa", sum := "c4f2399895d8abe9a5059065e270c669090ae760fcaaae0a84188fd488b9c4d8", checked := Try.checked }
namespace Rows
def none {H : Type} : Left H := { results := [], args := [] }

/-- 'pagecachelaw03.InodeCodes': WHATEVER THE INPUT: true; the input reads as it did. -/
def inodeCodesSpec : ChangeSpec := { name := "inodeCodes", fn := fun _ => fun
  | [d1, d2] => { results := [.lit (.bool true)], args := [d1, d2] }
  | _ => none }
def inodeCodesRow : OpenClaim := { program := "ytcgfffkfmnbneaa", sum := "c4f2399895d8abe9a5059065e270c669090ae760fcaaae0a84188fd488b9c4d8", func := "pagecache/pagecachelaw03.InodeCodes", spec := "inodeCodes", apart := false }
def InodeCodesSaid : Prop := inodeCodesRow.holds Try.pinned (OpenSpec.ofChange inodeCodesSpec)

/-- ITS FALSE NEIGHBOUR: 'it returns false'. Refute it at one input. -/
def inodeCodesWrong : ChangeSpec := { name := "inodeCodes", fn := fun _ => fun
  | [d1, d2] => { results := [.lit (.bool false)], args := [d1, d2] }
  | _ => none }
def InodeCodesWrongFalsely : Prop := inodeCodesRow.holds Try.pinned (OpenSpec.ofChange inodeCodesWrong)

/-- 'pagecachelaw03.InodeTears': WHATEVER THE INPUT: true; the input reads as it did. -/
def inodeTearsSpec : ChangeSpec := { name := "inodeTears", fn := fun _ => fun
  | [d1, d2] => { results := [.lit (.bool true)], args := [d1, d2] }
  | _ => none }
def inodeTearsRow : OpenClaim := { program := "ytcgfffkfmnbneaa", sum := "c4f2399895d8abe9a5059065e270c669090ae760fcaaae0a84188fd488b9c4d8", func := "pagecache/pagecachelaw03.InodeTears", spec := "inodeTears", apart := false }
def InodeTearsSaid : Prop := inodeTearsRow.holds Try.pinned (OpenSpec.ofChange inodeTearsSpec)

/-- ITS FALSE NEIGHBOUR: 'it returns false'. Refute it at one input. -/
def inodeTearsWrong : ChangeSpec := { name := "inodeTears", fn := fun _ => fun
  | [d1, d2] => { results := [.lit (.bool false)], args := [d1, d2] }
  | _ => none }
def InodeTearsWrongFalsely : Prop := inodeTearsRow.holds Try.pinned (OpenSpec.ofChange inodeTearsWrong)

/-- 'pagecachelaw03.InodePairs': WHATEVER THE INPUT: true; the input reads as it did. -/
def inodePairsSpec : ChangeSpec := { name := "inodePairs", fn := fun _ => fun
  | [d] => { results := [.lit (.bool true)], args := [d] }
  | _ => none }
def inodePairsRow : OpenClaim := { program := "ytcgfffkfmnbneaa", sum := "c4f2399895d8abe9a5059065e270c669090ae760fcaaae0a84188fd488b9c4d8", func := "pagecache/pagecachelaw03.InodePairs", spec := "inodePairs", apart := false }
def InodePairsSaid : Prop := inodePairsRow.holds Try.pinned (OpenSpec.ofChange inodePairsSpec)

/-- ITS FALSE NEIGHBOUR: 'it returns false'. Refute it at one input. -/
def inodePairsWrong : ChangeSpec := { name := "inodePairs", fn := fun _ => fun
  | [d] => { results := [.lit (.bool false)], args := [d] }
  | _ => none }
def InodePairsWrongFalsely : Prop := inodePairsRow.holds Try.pinned (OpenSpec.ofChange inodePairsWrong)

/-- 'pagecachelaw03.InodeFiles': WHATEVER THE INPUT: true; the input reads as it did. -/
def inodeFilesSpec : ChangeSpec := { name := "inodeFiles", fn := fun _ => fun
  | [d] => { results := [.lit (.bool true)], args := [d] }
  | _ => none }
def inodeFilesRow : OpenClaim := { program := "ytcgfffkfmnbneaa", sum := "c4f2399895d8abe9a5059065e270c669090ae760fcaaae0a84188fd488b9c4d8", func := "pagecache/pagecachelaw03.InodeFiles", spec := "inodeFiles", apart := false }
def InodeFilesSaid : Prop := inodeFilesRow.holds Try.pinned (OpenSpec.ofChange inodeFilesSpec)

/-- ITS FALSE NEIGHBOUR: 'it returns false'. Refute it at one input. -/
def inodeFilesWrong : ChangeSpec := { name := "inodeFiles", fn := fun _ => fun
  | [d] => { results := [.lit (.bool false)], args := [d] }
  | _ => none }
def InodeFilesWrongFalsely : Prop := inodeFilesRow.holds Try.pinned (OpenSpec.ofChange inodeFilesWrong)

/-- 'pagecachelaw03.InodeWrites': WHATEVER THE INPUT: true; the input reads as it did. -/
def inodeWritesSpec : ChangeSpec := { name := "inodeWrites", fn := fun _ => fun
  | [d] => { results := [.lit (.bool true)], args := [d] }
  | _ => none }
def inodeWritesRow : OpenClaim := { program := "ytcgfffkfmnbneaa", sum := "c4f2399895d8abe9a5059065e270c669090ae760fcaaae0a84188fd488b9c4d8", func := "pagecache/pagecachelaw03.InodeWrites", spec := "inodeWrites", apart := false }
def InodeWritesSaid : Prop := inodeWritesRow.holds Try.pinned (OpenSpec.ofChange inodeWritesSpec)

/-- ITS FALSE NEIGHBOUR: 'it returns false'. Refute it at one input. -/
def inodeWritesWrong : ChangeSpec := { name := "inodeWrites", fn := fun _ => fun
  | [d] => { results := [.lit (.bool false)], args := [d] }
  | _ => none }
def InodeWritesWrongFalsely : Prop := inodeWritesRow.holds Try.pinned (OpenSpec.ofChange inodeWritesWrong)

/- THE SECOND FORM. 'bulk': how many values and letters a reading holds, each counted each time it is reached (what is shared counts as often as it is met; a slice's spare places count too). A statement '..UptoSaid' is the law's where the arguments, and the package variables that the reading takes, are together of bulk at most 1048576: NARROWER than '..Said'. Prove '..Said' where nothing that the law and all that it calls make is longer than what came in: it says more and counts as full. Else prove '..UptoSaid'. A law counts once. -/
mutual
def uptoBulk {H : Type} : DataW H → Nat
  | .lit (.string bytes) => bytes.length + 1
  | .lit _ => 1
  | .nil => 1
  | .ptr d => uptoBulk d + 1
  | .slice elems spare => uptoBulkAll elems + uptoBulkAll spare + 1
  | .agg parts => uptoBulkAll parts + 1
  | .iface _ d => uptoBulk d + 1
  | .map entries => uptoBulkEntries entries + 1
  | .held _ => 1
def uptoBulkAll {H : Type} : List (DataW H) → Nat
  | [] => 0
  | d :: r => uptoBulk d + uptoBulkAll r
def uptoBulkEntries {H : Type} : List (Lit × DataW H) → Nat
  | [] => 0
  | x :: r => uptoBulkEntry x + uptoBulkEntries r
def uptoBulkEntry {H : Type} : Lit × DataW H → Nat
  | (.string bytes, d) => bytes.length + uptoBulk d + 1
  | (_, d) => uptoBulk d + 1
 end
def uptoSmall : (H : Type) → List (DataW H) → Bool := fun _ ds => decide (uptoBulkAll ds ≤ 1048576)
def OpenSpec.upto (s : _root_.Go.ChangeSpec) : _root_.Go.OpenSpec := { _root_.Go.OpenSpec.ofChange s with cond := some uptoSmall }

/-- 'pagecachelaw03.InodeCodes', WHERE WHAT IT READS IS OF BULK AT MOST 1048576: true; the input reads as it did. -/
def inodeCodesUptoRow : OpenClaim := { program := "ytcgfffkfmnbneaa", sum := "c4f2399895d8abe9a5059065e270c669090ae760fcaaae0a84188fd488b9c4d8", func := "pagecache/pagecachelaw03.InodeCodes", spec := "inodeCodes", apart := false, narrowed := true }
def InodeCodesUptoSaid : Prop := inodeCodesUptoRow.holds Try.pinned (OpenSpec.upto inodeCodesSpec)

/-- 'pagecachelaw03.InodeTears', WHERE WHAT IT READS IS OF BULK AT MOST 1048576: true; the input reads as it did. -/
def inodeTearsUptoRow : OpenClaim := { program := "ytcgfffkfmnbneaa", sum := "c4f2399895d8abe9a5059065e270c669090ae760fcaaae0a84188fd488b9c4d8", func := "pagecache/pagecachelaw03.InodeTears", spec := "inodeTears", apart := false, narrowed := true }
def InodeTearsUptoSaid : Prop := inodeTearsUptoRow.holds Try.pinned (OpenSpec.upto inodeTearsSpec)

/-- 'pagecachelaw03.InodePairs', WHERE WHAT IT READS IS OF BULK AT MOST 1048576: true; the input reads as it did. -/
def inodePairsUptoRow : OpenClaim := { program := "ytcgfffkfmnbneaa", sum := "c4f2399895d8abe9a5059065e270c669090ae760fcaaae0a84188fd488b9c4d8", func := "pagecache/pagecachelaw03.InodePairs", spec := "inodePairs", apart := false, narrowed := true }
def InodePairsUptoSaid : Prop := inodePairsUptoRow.holds Try.pinned (OpenSpec.upto inodePairsSpec)

/-- 'pagecachelaw03.InodeFiles', WHERE WHAT IT READS IS OF BULK AT MOST 1048576: true; the input reads as it did. -/
def inodeFilesUptoRow : OpenClaim := { program := "ytcgfffkfmnbneaa", sum := "c4f2399895d8abe9a5059065e270c669090ae760fcaaae0a84188fd488b9c4d8", func := "pagecache/pagecachelaw03.InodeFiles", spec := "inodeFiles", apart := false, narrowed := true }
def InodeFilesUptoSaid : Prop := inodeFilesUptoRow.holds Try.pinned (OpenSpec.upto inodeFilesSpec)

/-- 'pagecachelaw03.InodeWrites', WHERE WHAT IT READS IS OF BULK AT MOST 1048576: true; the input reads as it did. -/
def inodeWritesUptoRow : OpenClaim := { program := "ytcgfffkfmnbneaa", sum := "c4f2399895d8abe9a5059065e270c669090ae760fcaaae0a84188fd488b9c4d8", func := "pagecache/pagecachelaw03.InodeWrites", spec := "inodeWrites", apart := false, narrowed := true }
def InodeWritesUptoSaid : Prop := inodeWritesUptoRow.holds Try.pinned (OpenSpec.upto inodeWritesSpec)

end Rows
end Go.Proofs.Ytcgfffkfmnbneaa
