/-
  Measures in memory, and the state of a law over a tape and a measure.
-/
import Derived.Test.YtiknpncnmdonfaaBand3
import Derived.Test.YtiknpncnmdonfaaExt
import Derived.Deep.RegionHeld3
import Derived.Deep.DeepCutAuto
import Derived.Deep.CutBlock
namespace Go.Proofs.Ytiknpncnmdonfaa
open Go.RowKit
set_option linter.unusedVariables false

/-- The cells of a measure in block b. -/
def MAt (w : World) (b : Nat) (x y z : Int) : Prop := w.heap[b]? = some (.cells #[.int .i64 x, .int .i64 y, .int .i64 z] 28 (0, 0))
theorem MAt.cells {w : World} {b : Nat} {x y z : Int} (h : MAt w b x y z) : w.cell? ⟨b, 0, none⟩ = some (.int .i64 x) ∧ w.cell? ⟨b, 1, none⟩ = some (.int .i64 y) ∧ w.cell? ⟨b, 2, none⟩ = some (.int .i64 z) ∧
    w.frozen? ⟨b, 0, none⟩ = false ∧ w.frozen? ⟨b, 1, none⟩ = false ∧ w.frozen? ⟨b, 2, none⟩ = false ∧ b < w.heap.size := by
  refine ⟨?_, ?_, ?_, free_at h 0, free_at h 1, free_at h 2, (Array.getElem?_eq_some_iff.1 h).1⟩ <;> (rw [cells_at h]; rfl)
theorem MAt.kept {w w' : World} {b c : Nat} {x y z : Int} (h : MAt w b x y z) (hg : w.grownBy w' (some c)) (hb : b ≠ c) : MAt w' b x y z := by
  unfold MAt at *
  rw [hg.block b (Array.getElem?_eq_some_iff.1 h).1 (by simpa using hb)]
  exact h
theorem MAt.step {w w' : World} {b : Nat} {x y z : Int} (h : MAt w b x y z) (hb : Below w.heap.size w w') : MAt w' b x y z := by
  unfold MAt at *
  rw [hb.block b (Array.getElem?_eq_some_iff.1 h).1]
  exact h
theorem MAt.alloc {w : World} {b : Nat} {x y z : Int} (h : MAt w b x y z) (o : Obj) : MAt (w.alloc o) b x y z :=
  h.kept (c := w.heap.size) (World.grownBy_alloc w o _) (by have := (Array.getElem?_eq_some_iff.1 h).1; omega)
theorem MAt.ext {w : World} {b : Nat} {x y z : Int} (h : MAt w b x y z) : (∀ e, (ext w e).cell? ⟨b, 0, none⟩ = some (.int .i64 x)) ∧ (∀ e, (ext w e).cell? ⟨b, 1, none⟩ = some (.int .i64 y)) ∧ (∀ e, (ext w e).cell? ⟨b, 2, none⟩ = some (.int .i64 z)) := by
  obtain ⟨h0, h1, h2, _, _, _, hz⟩ := h.cells
  exact ⟨fun e => by rw [ext_cell w e b 0 hz, h0], fun e => by rw [ext_cell w e b 1 hz, h1], fun e => by rw [ext_cell w e b 2 hz, h2]⟩
theorem MAt.new (w : World) (x y z : Int) : MAt (w.alloc (.cells #[.int .i64 x, .int .i64 y, .int .i64 z] 28)) w.heap.size x y z := by
  show (w.heap.push _)[w.heap.size]? = _
  simp
theorem MAt.set0 {w : World} {b : Nat} {x y z : Int} (h : MAt w b x y z) (u : Int) : MAt (w.setCell ⟨b, 0, none⟩ (.int .i64 u)) b u y z := by
  unfold MAt at *; simp [World.setCell, Array.getElem?_modify, h]
theorem MAt.set1 {w : World} {b : Nat} {x y z : Int} (h : MAt w b x y z) (u : Int) : MAt (w.setCell ⟨b, 1, none⟩ (.int .i64 u)) b x u z := by
  unfold MAt at *; simp [World.setCell, Array.getElem?_modify, h]
theorem MAt.set2 {w : World} {b : Nat} {x y z : Int} (h : MAt w b x y z) (u : Int) : MAt (w.setCell ⟨b, 2, none⟩ (.int .i64 u)) b x y u := by
  unfold MAt at *; simp [World.setCell, Array.getElem?_modify, h]

/-- The state of the law: the tape in block tb, the measure in block mb. -/
def St (W : World) (tb mb : Nat) (x y z : Int) (w : World) : Prop := Tp W tb w ∧ MAt w mb x y z ∧ tb < mb
theorem St.alloc {W w : World} {tb mb : Nat} {x y z : Int} (h : St W tb mb x y z w) (o : Obj) : St W tb mb x y z (w.alloc o) :=
  ⟨h.1.alloc o, h.2.1.kept (c := w.heap.size) (World.grownBy_alloc w o _) (by have := h.2.1.cells.2.2.2.2.2.2; omega), h.2.2⟩
theorem St.step {W w w' : World} {tb mb : Nat} {x y z : Int} (h : St W tb mb x y z w) (hb : Below w.heap.size w w') : St W tb mb x y z w' := by
  refine ⟨h.1.step hb, ?_, h.2.2⟩
  have h1 := h.2.1
  unfold MAt at *
  rw [hb.block mb (Array.getElem?_eq_some_iff.1 h1).1]
  exact h1
theorem St.step2 {W w w' : World} {tb mb : Nat} {x y z : Int} (hb : Below w.heap.size w w') (h : St W tb mb x y z w) : St W tb mb x y z w' := h.step hb
theorem St.drew {W w : World} {tb mb : Nat} {x y z : Int} (h : St W tb mb x y z w) : St W tb mb x y z w.drew := ⟨h.1.drew, h.2.1, h.2.2⟩

theorem St.set0 {W w : World} {tb mb : Nat} {x y z : Int} (h : St W tb mb x y z w) (u : Int) : St W tb mb u y z (w.setCell ⟨mb, 0, none⟩ (.int .i64 u)) := ⟨h.1.set _ _ h.2.2, h.2.1.set0 u, h.2.2⟩
theorem St.set1 {W w : World} {tb mb : Nat} {x y z : Int} (h : St W tb mb x y z w) (u : Int) : St W tb mb x u z (w.setCell ⟨mb, 1, none⟩ (.int .i64 u)) := ⟨h.1.set _ _ h.2.2, h.2.1.set1 u, h.2.2⟩
theorem St.set2 {W w : World} {tb mb : Nat} {x y z : Int} (h : St W tb mb x y z w) (u : Int) : St W tb mb x y u (w.setCell ⟨mb, 2, none⟩ (.int .i64 u)) := ⟨h.1.set _ _ h.2.2, h.2.1.set2 u, h.2.2⟩
theorem St.one {W w : World} {tb mb : Nat} {x y z : Int} (h : St W tb mb x y z w) : w.cell? ⟨mb, 1, none⟩ = some (.int .i64 y) ∧ St W tb mb x y z w := ⟨h.2.1.cells.2.1, h⟩

def DrewS (n : Int) (W : World) (tb mb : Nat) (x y z : Int) (e : Ending) (w' : World) : Prop := ∃ v, e = .returned (.int .i64 v) ∧ 0 ≤ v ∧ v < n ∧ St W tb mb x y z w'
theorem next_s (n : Int) (W w : World) (tb mb : Nat) (x y z : Int) (h1n : 1 ≤ n) (h2n : n ≤ 9223372036854775807) (h : St W tb mb x y z w) :
    Calls Try.prog 6 #[.pointer (some ⟨tb, 0, none⟩), .int .i64 n] w (DrewS n W tb mb x y z) := by
  refine (next_t n W w tb h1n h2n h.1).mono ?_
  rintro e w' ⟨v, rfl, h0, h1, hT, hg⟩
  exact ⟨v, rfl, h0, h1, hT, h.2.1.kept hg (by have := h.2.2; omega), h.2.2⟩
def DrewOS (W : World) (tb mb : Nat) (x y z : Int) (e : Ending) (w' : World) : Prop := ∃ v, e = .returned (.int .i64 v) ∧ -9223372036854775808 ≤ v ∧ v ≤ 9223372036854775807 ∧ St W tb mb x y z w'
theorem odd_s (W w : World) (tb mb : Nat) (x y z : Int) (h : St W tb mb x y z w) :
    Calls Try.prog 7 #[.pointer (some ⟨tb, 0, none⟩)] w (DrewOS W tb mb x y z) := by
  refine (odd_t W w tb h.1).mono ?_
  rintro e w' ⟨v, rfl, h0, h1, hT, hg⟩
  exact ⟨v, rfl, h0, h1, hT, h.2.1.kept hg (by have := h.2.2; omega), h.2.2⟩


end Go.Proofs.Ytiknpncnmdonfaa
