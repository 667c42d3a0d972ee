/-
  Small lemmas that all walks of this seat use: numbers, worlds that keep what was there, rows of integers.
-/
import Derived.Test.YtpoagdffpajdjaaRows
import Derived.WalkKit
import Derived.WalkSpells
import Derived.WalkLawsBesides
import Derived.Deep.QuietTactic
import Derived.BigQuiet
import Derived.Lib.Hide
import Derived.BigRegion
import Derived.Deep.RegionHeld3
import Derived.Deep.DeepCutAuto
import Derived.Deep.CutBlock
namespace Go.Proofs.Ytpoagdffpajdjaa
open Go.RowKit
set_option linter.unusedVariables false

theorem ret_bool {a b : Bool} (h : a = b) : Ending.returned (.bool a) = .returned (.bool b) := by rw [h]

theorem ret_int {k : IntKind} {a b : Int} (h : a = b) : Ending.returned (.int k a) = .returned (.int k b) := by rw [h]

theorem Calls.quiet_of_eq {P : Program} {f : FuncId} {args : Array Value} {w : World} {n : Nat} {v : Value}
    (h : Calls P f args (w.drewN n) fun e w' => e = .returned v ∧ w.drewN n = w') : Calls P f args (w.drewN n) fun e w'' => e = .returned v ∧ ∃ m, w'' = w.drewN m :=
  h.mono fun _ _ ⟨he, hm⟩ => ⟨he, n, hm.symm⟩

/-- What Cut computes. -/
def cutI (x n : Int) : Int := x % 18446744073709551616 % n

theorem cutI_range (x n : Int) (h : 1 ≤ n) : 0 ≤ cutI x n ∧ cutI x n < n :=
  ⟨Int.emod_nonneg _ (by omega), Int.emod_lt_of_pos _ (by omega)⟩

theorem cutI_eq (x n : Int) (h1 : 1 ≤ n) (h2 : n ≤ 9223372036854775807) : wrap64 ((IntKind.u64.wrap x).tmod n) = cutI x n := by
  have hr := cutI_range x n h1
  rw [IntKind.wrap_u64, Int.tmod_eq_emod_of_nonneg (by omega)]
  exact IntWalk.wrap64_in _ (by unfold cutI at hr; omega)

theorem drew_set (w : World) (a b : Nat) (p : Addr) (v : Value) : ((w.drewN a).setCell p v).drewN b = (w.setCell p v).drewN (a + b) := by
  simp [World.drewN, World.setCell, Nat.add_assoc]

theorem cells_at {w : World} {b : Nat} {cs : Array Value} {t : TypeId} (h : w.heap[b]? = some (.cells cs t (0, 0))) (i : Nat) : w.cell? ⟨b, i, none⟩ = cs[i]? := by simp [World.cell?, h]

theorem free_at {w : World} {b : Nat} {cs : Array Value} {t : TypeId} (h : w.heap[b]? = some (.cells cs t (0, 0))) (i : Nat) : w.frozen? ⟨b, i, none⟩ = false := by simp [World.frozen?, h]

theorem grownBy_drewN (w : World) (m : Nat) (row : Option Nat) : w.grownBy (w.drewN m) row := ⟨rfl, rfl, rfl, Nat.le_refl _, fun _ _ _ => rfl⟩

theorem grownBy_setCell (w : World) (p : Addr) (v : Value) : w.grownBy (w.setCell p v) (some p.block) :=
  ⟨rfl, rfl, rfl, by simp [World.setCell], fun k _ hk => by
    simp only [World.setCell, Array.getElem?_modify]
    rw [if_neg (fun e => hk (by rw [e]))]⟩

theorem grownBy_trans {a b c : World} {row : Option Nat} (h : a.grownBy b row) (k : b.grownBy c row) : a.grownBy c row :=
  ⟨k.os.trans h.os, k.tape.trans h.tape, k.output.trans h.output, Nat.le_trans h.size k.size, fun i hi hr => (k.block i (Nat.lt_of_lt_of_le hi h.size) hr).trans (h.block i hi hr)⟩

/-- A row of ints just laid: each cell is an int that fits. -/
theorem ints_cell (w : World) (l : List Int) (t : TypeId) (i : Nat) (hi : i < l.length) :
    (w.alloc (.cells (l.map (Value.int .i64)).toArray t)).cell? ⟨w.heap.size, i, none⟩ = some (.int .i64 l[i]) := by
  have e : (w.alloc (.cells (l.map (Value.int .i64)).toArray t)).heap[w.heap.size]? = some (.cells (l.map (Value.int .i64)).toArray t (0, 0)) := by show (w.heap.push _)[w.heap.size]? = _; simp
  rw [cells_at e]; simp [hi]

/-- What a walk is told of a slice of integers that came in (as in the shell of a proof). -/
def IsRow (k : IntKind) (w : World) (a : Option Addr) (len cap : Nat) (zs : List Int) : Prop :=
  (a = none ∧ len = 0 ∧ cap = 0 ∧ zs = []) ∨
  ∃ x, a = some x ∧ len ≤ cap ∧ cap ≤ maxLen ∧ zs.length = cap ∧ (∀ i, i < zs.length → w.cell? (x.add i) = some (.int k (zs.getD i 0))) ∧ ∀ n ∈ zs, (Lit.int k n).wf = true

/-- What a walk is told behind a call that leaves what was there: rules for cells, marks and sizes, which chain by themselves. -/
theorem kept {W w1 : World} (hb : Below W.heap.size W w1) :
    (∀ b o, b < W.heap.size → w1.cell? ⟨b, o, none⟩ = W.cell? ⟨b, o, none⟩) ∧ (∀ b o, b < W.heap.size → w1.frozen? ⟨b, o, none⟩ = W.frozen? ⟨b, o, none⟩) ∧
    (∀ k, k < W.heap.size → k < w1.heap.size) ∧ (∀ k, k < W.heap.size → k ≤ w1.heap.size) ∧ (∀ k, k < W.heap.size → ¬ k = w1.heap.size) ∧ (∀ k, k < W.heap.size → ¬ w1.heap.size = k) ∧
    (∀ k, k ≤ W.heap.size → k ≤ w1.heap.size) ∧ (∀ k, k < W.heap.size → k < w1.heap.size + 1) ∧ (∀ k, k < W.heap.size → k < w1.heap.size + 1 + 1) :=
  ⟨fun b o h => hb.cell (p := ⟨b, o, none⟩) h, fun b o h => hb.frozen (p := ⟨b, o, none⟩) h, fun k h => Nat.lt_of_lt_of_le h hb.size, fun k h => Nat.le_trans (Nat.le_of_lt h) hb.size,
    fun k h => by have := hb.size; omega, fun k h => by have := hb.size; omega, fun k h => Nat.le_trans h hb.size, fun k h => by have := hb.size; omega, fun k h => by have := hb.size; omega⟩

/-- The same, where one block may have changed. -/
theorem keptG {c : Nat} {W w1 : World} (hg : W.grownBy w1 (some c)) :
    (∀ b o, b < W.heap.size → ¬ b = c → w1.cell? ⟨b, o, none⟩ = W.cell? ⟨b, o, none⟩) ∧ (∀ b o, b < W.heap.size → ¬ b = c → w1.frozen? ⟨b, o, none⟩ = W.frozen? ⟨b, o, none⟩) ∧
    (∀ k, k < W.heap.size → k < w1.heap.size) ∧ (∀ k, k < W.heap.size → k ≤ w1.heap.size) ∧ (∀ k, k < W.heap.size → ¬ k = w1.heap.size) ∧ (∀ k, k < W.heap.size → ¬ w1.heap.size = k) ∧
    (∀ k, k ≤ W.heap.size → k ≤ w1.heap.size) ∧ (∀ k, k < W.heap.size → k < w1.heap.size + 1) ∧ (∀ k, k < W.heap.size → k < w1.heap.size + 1 + 1) :=
  ⟨fun b o h hn => World.cell?_of_block (a := ⟨b, o, none⟩) (hg.block b h (by simpa using hn)), fun b o h hn => World.frozen?_of_block (a := ⟨b, o, none⟩) (hg.block b h (by simpa using hn)),
    fun k h => Nat.lt_of_lt_of_le h hg.size, fun k h => Nat.le_trans (Nat.le_of_lt h) hg.size, fun k h => by have := hg.size; omega, fun k h => by have := hg.size; omega, fun k h => Nat.le_trans h hg.size, fun k h => by have := hg.size; omega, fun k h => by have := hg.size; omega⟩

theorem bl_step {W0 W w1 : World} (h : Below W0.heap.size W0 W) (hb : Below W.heap.size W w1) : Below W0.heap.size W0 w1 := h.trans (hb.mono h.size)

theorem bl_step2 {W0 W w1 : World} (hb : Below W.heap.size W w1) (h : Below W0.heap.size W0 W) : Below W0.heap.size W0 w1 := bl_step h hb

theorem bl_alloc {W0 X : World} (h : Below W0.heap.size W0 X) (o : Obj) : Below W0.heap.size W0 (X.alloc o) := h.alloc h.size o

/-- A number or a bool comes back; what was in memory is as it was. -/
def RetB (b : Bool) (w : World) (e : Ending) (w' : World) : Prop := e = .returned (.bool b) ∧ Below w.heap.size w w'
def RetI (n : Int) (w : World) (e : Ending) (w' : World) : Prop := e = .returned (.int .i64 n) ∧ Below w.heap.size w w'

end Go.Proofs.Ytpoagdffpajdjaa
