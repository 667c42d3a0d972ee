/-
  Regions that draw their order, whose operations read and whose callees leave what was there: one walk of the text's order serves every order.
-/
import Derived.Test.YtpoagdffpajdjaaBase
namespace Go.Proofs.Ytpoagdffpajdjaa
open Go.RowKit

/-- Blocks and draws that come on top. -/
structure More where
  r : Array Obj
  d : Nat
instance : Inhabited More := ⟨⟨#[], 0⟩⟩
/-- A world with more blocks behind it and more draws. -/
def ext (W : World) (z : More) : World := { W with heap := W.heap ++ z.r, drawn := z.d }
theorem ext_block (W : World) (z : More) (b : Nat) (h : b < W.heap.size) : (ext W z).heap[b]? = W.heap[b]? := by simp [ext, Array.getElem?_append, h]
theorem ext_cell (W : World) : ∀ z b o, b < W.heap.size → (ext W z).cell? ⟨b, o, none⟩ = W.cell? ⟨b, o, none⟩ := by
  intro z b o h
  simp [World.cell?, ext_block W z b h]
theorem ext_of_below {W w' : World} (h : Below W.heap.size W w') : ∃ z, w' = ext W z := by
  refine ⟨⟨w'.heap.extract W.heap.size w'.heap.size, w'.drawn⟩, ?_⟩
  have e : w'.heap = W.heap ++ w'.heap.extract W.heap.size w'.heap.size := by
    apply Array.ext_getElem?
    intro i
    by_cases hi : i < W.heap.size
    · rw [h.block i hi, Array.getElem?_append, if_pos hi]
    · rw [Array.getElem?_append, if_neg hi, Array.getElem?_extract]
      by_cases hj : i < w'.heap.size
      · rw [if_pos (by omega), show W.heap.size + (i - W.heap.size) = i from by omega]
      · rw [if_neg (by omega), Array.getElem?_eq_none (by omega)]
  unfold ext
  rw [← e, ← h.os, ← h.tape, ← h.output]
theorem below_ext (W : World) (z : More) : Below W.heap.size W (ext W z) :=
  ⟨rfl, rfl, rfl, by simp [ext], fun k hk => ext_block W z k hk⟩
/-- A callee's contract in the class of worlds that keep what was there. -/
theorem ext_call {P : Program} {f : FuncId} {args : Array Value} {W : World} {z : More} {v : Value}
    (h : Calls P f args (ext W z) fun e w' => e = .returned v ∧ Below (ext W z).heap.size (ext W z) w') :
    Calls P f args (ext W z) fun e w'' => e = .returned v ∧ ∃ z', w'' = ext W z' :=
  h.mono fun _ _ ⟨he, hb⟩ => ⟨he, ext_of_below (bl_step (below_ext W z) hb)⟩
theorem ext_same {P : Program} {f : FuncId} {args : Array Value} {W : World} {z : More} {v : Value}
    (h : Calls P f args (ext W z) fun e w' => e = .returned v ∧ ext W z = w') :
    Calls P f args (ext W z) fun e w'' => e = .returned v ∧ ∃ z', w'' = ext W z' :=
  h.mono fun _ _ ⟨he, hb⟩ => ⟨he, z, hb.symm⟩
theorem ext_start (W : World) : ∃ z, { W with drawn := W.drawn + 1 } = ext W z := ⟨⟨#[], W.drawn + 1⟩, by simp [ext]⟩
theorem wp_region_ext {P : Program} {id : Nat} {Q : Exit → Act → World → Prop} {a : Act} {W : World} {l : List Oper} (hm : P.follows .mixedOrders = true) (hB : Region.lexB .any l.toArray = true)
    (h : wpQuiet P l.toArray (fun w' => ∃ z, w' = ext W z) (fun a' => ∀ w', (∃ z, w' = ext W z) → Q .normal a' w') l a) : (Code.region id l.toArray true).wp P Q a W :=
  wp_region_quiet (C := fun w' => ∃ z, w' = ext W z) hm hB (ext_start W) (by simpa using h)

end Go.Proofs.Ytpoagdffpajdjaa
