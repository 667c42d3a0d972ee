/-
  Drawn regions that only add memory: what is known of each operation's value is a list of facts that later blocks do not disturb.
-/
import Derived.Test.YtpoagdffpajdjaaRel
import Derived.Test.YtpoagdffpajdjaaBase
namespace Go.Proofs.Ytpoagdffpajdjaa
open Go.RowKit
set_option linter.unusedVariables false
set_option linter.unusedSimpArgs false

/-- A fact about a value that later blocks do not disturb. -/
structure SP where
  p : Value → World → Prop
  st : ∀ v w w', Below w.heap.size w w' → p v w → p v w'
def SP.eq (x : Value) : SP := ⟨fun v _ => v = x, fun _ _ _ _ h => h⟩
def SP.any : SP := ⟨fun _ _ => True, fun _ _ _ _ h => h⟩
def GS (ls : List SP) (j : Nat) (v : Value) (w : World) : Prop := (ls.getD j SP.any).p v w
theorem GS.keep {ls : List SP} {w w' : World} (hr : Below w.heap.size w w') (j : Nat) (v : Value) (h : GS ls j v w) : GS ls j v w' := (ls.getD j SP.any).st v w w' hr h
theorem wp_region_sp {P : Program} {id : Nat} {Q : Exit → Act → World → Prop} {a : Act} {W : World} {l : List Oper} (n m : Nat) (ls : List SP)
    (hm : P.follows .mixedOrders = true) (hB : relB l.toArray n m = true) (hs : a.tmps.size = m)
    (h : relWalk P l.toArray (fun x => Below W.heap.size W x) (fun x y => Below x.heap.size x y) (GS ls) (fun a' => ∀ w', Below W.heap.size W w' → (∀ j, j < n → GS ls j (atOp l.toArray a' j) w') → wpList P l.toArray Q (l.drop n) a' w') 0 (l.take n) a) : (Code.region id l.toArray true).wp P Q a W :=
  wp_region_rel n m _ _ (GS ls) hm hB hs ((Below.refl _ _).drew) (fun x y hr => GS.keep hr) h

end Go.Proofs.Ytpoagdffpajdjaa
