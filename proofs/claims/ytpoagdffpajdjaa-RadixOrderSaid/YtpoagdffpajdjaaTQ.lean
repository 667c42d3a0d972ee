/-
  Drawn regions that draw numbers from a tape and make memory: what is known of each value is a fact that the tape's block and later blocks do not disturb.
-/
import Derived.Test.YtpoagdffpajdjaaRel
import Derived.Test.YtpoagdffpajdjaaTape
import Derived.Test.YtpoagdffpajdjaaInts
import Derived.Great.BuildSlice
namespace Go.Proofs.Ytpoagdffpajdjaa
open Go.RowKit
set_option linter.unusedVariables false
set_option linter.unusedSimpArgs false

theorem gb_block {w w' : World} {b g : Nat} {o : Obj} (hg : w.grownBy w' (some b)) (hn : g ≠ b) (h : w.heap[g]? = some o) : w'.heap[g]? = some o :=
  (hg.block _ (Array.getElem?_eq_some_iff.1 h).1 (by simpa using hn)).trans h
theorem gb_of_below {w w' : World} (hb : Below w.heap.size w w') (row : Option Nat) : w.grownBy w' row := ⟨hb.os, hb.tape, hb.output, hb.size, fun k hk _ => hb.block k hk⟩
structure TQ (b : Nat) where
  p : Value → World → Prop
  st : ∀ v w w', w.grownBy w' (some b) → p v w → p v w'
def TQ.any {b : Nat} : TQ b := ⟨fun _ _ => True, fun _ _ _ _ h => h⟩
def TQ.eq {b : Nat} (x : Value) : TQ b := ⟨fun v _ => v = x, fun _ _ _ _ h => h⟩
def TQ.int {b : Nat} (lo hi : Int) : TQ b := ⟨fun v _ => ∃ y : Int, v = .int .i64 y ∧ lo ≤ y ∧ y < hi, fun _ _ _ _ h => h⟩
def TQ.nat {b : Nat} (n : Nat) : TQ b := ⟨fun v _ => ∃ i : Nat, v = .int .i64 i ∧ i < n, fun _ _ _ _ h => h⟩
/-- A new row of numbers; a place in it. -/
def rowO (l : List Int) (t : TypeId) : Obj := .cells (l.map (Value.int .i64)).toArray t (0, 0)
def TQ.row {b : Nat} (l : List Int) (t : TypeId) : TQ b := ⟨fun v w => ∃ g, v = .slice (some ⟨g, 0, none⟩) l.length l.length ∧ g ≠ b ∧ w.heap[g]? = some (rowO l t), fun _ _ _ hg ⟨g, h1, h2, h3⟩ => ⟨g, h1, h2, gb_block hg h2 h3⟩⟩
def TQ.at_ {b : Nat} (l : List Int) (t : TypeId) : TQ b := ⟨fun v w => ∃ g i : Nat, v = .pointer (some ⟨g, i, none⟩) ∧ i < l.length ∧ g ≠ b ∧ w.heap[g]? = some (rowO l t), fun _ _ _ hg ⟨g, i, h1, h2, h3, h4⟩ => ⟨g, i, h1, h2, h3, gb_block hg h3 h4⟩⟩
def TQ.box {b : Nat} (B : Nat) (o : Obj) : TQ b := ⟨fun v w => ∃ g, v = .pointer (some ⟨g, 0, none⟩) ∧ g ≠ b ∧ B ≤ g ∧ w.heap[g]? = some o, fun _ _ _ hg ⟨g, h1, h2, h0, h3⟩ => ⟨g, h1, h2, h0, gb_block hg h2 h3⟩⟩
theorem row_at {w : World} {g i : Nat} {l : List Int} {t : TypeId} (h : w.heap[g]? = some (rowO l t)) (hi : i < l.length) : ∃ y ∈ l, w.cell? ⟨g, i, none⟩ = some (.int .i64 y) :=
  ⟨l[i], List.getElem_mem hi, by rw [cells_at h]; simp [hi]⟩
theorem gb_setRow (w : World) (g : Nat) (cs : Array Value) : w.grownBy (w.setRow g cs) (some g) :=
  ⟨rfl, rfl, rfl, by simp [World.setRow], fun k _ hk => setRow_other w g k cs fun e => hk (by rw [e])⟩
theorem own_gb' {w w' : World} {B sz n : Nat} {t : TypeId} {v : Value} {xs : List Value} {r : Option Nat} (h : w.ownsRow B t sz v n xs) (hg : w.grownBy w' r) (hn : ∀ k, v.ownBlock = some k → some k ≠ r) : w'.ownsRow B t sz v n xs :=
  h.kept hg (by cases e : v.ownBlock with | none => exact .inl rfl | some k => exact .inr (hn k e))
/-- The tape's state behind a change of one later block. -/
theorem Tp.gb {W w w' : World} {b g : Nat} (h : Tp W b w) (hg : w.grownBy w' (some g)) (hb : b < g) : Tp W b w' := by
  refine ⟨?_, h.2.1.grown hg h.2.1.size (fun k hk => by have := h.2.2; injection hk; omega), h.2.2⟩
  obtain ⟨a, len, cap, k, h1, h2, h3, h4⟩ := h.1
  refine ⟨a, len, cap, k, ?_, h2, h3, ?_⟩
  · rw [hg.block b (Array.getElem?_eq_some_iff.1 h1).1 (by simp; omega)]; exact h1
  · intro i hi
    obtain ⟨c, o, x, ha, hc, hx⟩ := h4 i hi
    exact ⟨c, o, x, ha, hc, hg.cell hx (by simp; omega)⟩
theorem Tp.gb' {W w w' : World} {b : Nat} {r : Option Nat} (h : Tp W b w) (hg : w.grownBy w' r) (hr : ∀ k, r = some k → b < k) : Tp W b w' := by
  cases r with
  | none => exact h.step ⟨hg.os, hg.tape, hg.output, hg.size, fun z hz => hg.block z hz (by simp)⟩
  | some k => exact h.gb hg (hr k rfl)
def GT {b : Nat} (ls : List (TQ b)) (j : Nat) (v : Value) (w : World) : Prop := (ls.getD j TQ.any).p v w
theorem GT.keep {b : Nat} {ls : List (TQ b)} {w w' : World} (hr : w.grownBy w' (some b)) (j : Nat) (v : Value) (h : GT ls j v w) : GT ls j v w' := (ls.getD j TQ.any).st v w w' hr h
/-- The class of worlds: the tape's state, all else as it was at the region's head. -/
def CT (W : World) (b : Nat) (w0 x : World) : Prop := Tp W b x ∧ w0.grownBy x (some b)
theorem CT.alloc {W w0 x : World} {b : Nat} (h : CT W b w0 x) (o : Obj) : CT W b w0 (x.alloc o) := ⟨h.1.alloc o, grownBy_trans h.2 (World.grownBy_alloc _ _ _)⟩
theorem CT.step {W w0 x y : World} {b : Nat} (h : CT W b w0 x) (hb : Below x.heap.size x y) : CT W b w0 y := ⟨h.1.step hb, grownBy_trans h.2 (gb_of_below hb _)⟩
theorem CT.drew {W w0 x y : World} {b : Nat} (h : CT W b w0 x) (hT : Tp W b y) (hg : x.grownBy y (some b)) : CT W b w0 y := ⟨hT, grownBy_trans h.2 hg⟩
theorem wp_region_tq {P : Program} {id : Nat} {Q : Exit → Act → World → Prop} {a : Act} {w0 W : World} {b : Nat} {l : List Oper} (n m : Nat) (ls : List (TQ b))
    (hm : P.follows .mixedOrders = true) (hB : relB l.toArray n m = true) (hs : a.tmps.size = m) (hT : Tp W b w0)
    (h : relWalk P l.toArray (CT W b w0) (fun x y => x.grownBy y (some b)) (GT ls) (fun a' => ∀ w', CT W b w0 w' → (∀ j, j < n → GT ls j (atOp l.toArray a' j) w') → wpList P l.toArray Q (l.drop n) a' w') 0 (l.take n) a) : (Code.region id l.toArray true).wp P Q a w0 :=
  wp_region_rel n m _ _ (GT ls) hm hB hs ⟨hT.drew, grownBy_drewN w0 1 _⟩ (fun x y hr => GT.keep hr) h
theorem own_gb {w w' : World} {B sz n b : Nat} {t : TypeId} {v : Value} {xs : List Value} (h : w.ownsRow B t sz v n xs) (hg : w.grownBy w' (some b)) (hb : b < B) : w'.ownsRow B t sz v n xs :=
  h.kept hg (by cases e : v.ownBlock with | none => exact .inl rfl | some k => exact .inr (by have := (h.lt k e).1; simp; omega))

end Go.Proofs.Ytpoagdffpajdjaa
