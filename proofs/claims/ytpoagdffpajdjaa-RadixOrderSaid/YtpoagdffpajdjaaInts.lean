/-
  Numbers in memory, sorted lists of numbers, the sort and Compact of the library, and small facts of worlds: of no package.
-/
import Derived.Test.YtpoagdffpajdjaaSP
import Derived.Deep.AppendLies
namespace Go.Proofs.Ytpoagdffpajdjaa
open Go.RowKit
set_option linter.unusedVariables false
set_option linter.unusedSimpArgs false

/-- A block that is known whole, kept. -/
theorem bk_step {w w' : World} {g : Nat} {x : Obj} (h : w.heap[g]? = some x) (hb : Below w.heap.size w w') : w'.heap[g]? = some x := (hb.block _ (Array.getElem?_eq_some_iff.1 h).1).trans h
theorem bk_alloc {w : World} {g : Nat} {x : Obj} (h : w.heap[g]? = some x) (o : Obj) : (w.alloc o).heap[g]? = some x := bk_step h ((Below.refl _ _).alloc (Nat.le_refl _) _)
theorem bk_lt {w : World} {g : Nat} {x : Obj} (h : w.heap[g]? = some x) : g < w.heap.size := (Array.getElem?_eq_some_iff.1 h).1
theorem heap_alloc_at (w : World) (o : Obj) : (w.alloc o).heap[w.heap.size]? = some o := heap_alloc_new w o
theorem heap_at_new (w : World) (o : Obj) (n : Nat) (h : w.heap.size = n) : (w.alloc o).heap[n]? = some o := by subst h; exact heap_alloc_new w o
theorem set_bk {w : World} {g : Nat} {x : Obj} (h : w.heap[g]? = some x) (p : Addr) (v : Value) (hn : g ≠ p.block) : (w.setCell p v).heap[g]? = some x := (Below.heap_setCell w p v g hn).trans h
theorem set_same {w : World} {g i : Nat} {cs : Array Value} {t : TypeId} {fr : Nat × Nat} (h : w.heap[g]? = some (.cells cs t fr)) (v : Value) : (w.setCell ⟨g, i, none⟩ v).heap[g]? = some (.cells (cs.setIfInBounds i v) t fr) := by
  simp [World.setCell, Array.getElem?_modify, h]
theorem own_step {w w' : World} {B sz n : Nat} {t : TypeId} {v : Value} {xs : List Value} (h : w.ownsRow B t sz v n xs) (hb : Below w.heap.size w w') : w'.ownsRow B t sz v n xs :=
  h.kept (row := none) ⟨hb.os, hb.tape, hb.output, hb.size, fun k hk _ => hb.block k hk⟩ (by cases h : v.ownBlock with | none => exact .inl rfl | some b => exact .inr (by simp))
def SP.blk (c : Nat) (cs : Array Value) (t : TypeId) : SP := ⟨fun v w => ∃ g, v = .slice (some ⟨g, 0, none⟩) c c ∧ w.heap[g]? = some (.cells cs t (0, 0)), fun v w w' hb ⟨g, h1, h2⟩ => ⟨g, h1, bk_step h2 hb⟩⟩
theorem w64 {x : Int} (h : -1000000 ≤ x ∧ x ≤ 1000000) : IntKind.i64.wrap x = x := IntWalk.i64_in _ (by omega)
/-- Numbers lie in memory. -/
def ZA (w : World) (A : Option Addr) (zs : List Int) : Prop :=
  zs = [] ∨ ∃ b o, A = some ⟨b, o, none⟩ ∧ b < w.heap.size ∧ ∀ i z, zs[i]? = some z → w.cell? ⟨b, o + i, none⟩ = some (.int .i64 z)
theorem ZA.step {w w' : World} {A : Option Addr} {zs : List Int} (h : ZA w A zs) (hb : Below w.heap.size w w') : ZA w' A zs := by
  rcases h with h | ⟨b, o, h1, h2, h3⟩
  · exact .inl h
  · exact .inr ⟨b, o, h1, Nat.lt_of_lt_of_le h2 hb.size, fun i z hi => (hb.cell (p := ⟨b, _, none⟩) h2).trans (h3 i z hi)⟩
theorem ZA.alloc {w : World} {A : Option Addr} {zs : List Int} (h : ZA w A zs) (o : Obj) : ZA (w.alloc o) A zs := h.step ((Below.refl _ _).alloc (Nat.le_refl _) _)
theorem ZA.drewN {w : World} {A : Option Addr} {zs : List Int} (h : ZA w A zs) (n : Nat) : ZA (w.drewN n) A zs := h
theorem ZA.at_ {w : World} {A : Option Addr} {zs : List Int} (h : ZA w A zs) {i : Nat} (hi : i < zs.length) : ∃ b o z, A = some ⟨b, o, none⟩ ∧ b < w.heap.size ∧ zs[i]? = some z ∧ w.cell? ⟨b, o + i, none⟩ = some (.int .i64 z) := by
  rcases h with h | ⟨b, o, h1, h2, h3⟩
  · subst h; simp at hi
  · have he : zs[i]? = some zs[i] := List.getElem?_eq_getElem hi
    exact ⟨b, o, _, h1, h2, he, h3 i _ he⟩
theorem row_za {w : World} {a : Option Addr} {len cap : Nat} {zs : List Int} (h : IsRow .i64 w a len cap zs) : ∃ zs' : List Int, zs'.length = len ∧ len ≤ maxLen ∧ ZA w a zs' := by
  rcases h with ⟨_, rfl, _⟩ | ⟨x, rfl, h1, h2, h3, h4, h5⟩
  · exact ⟨[], rfl, by simp, .inl rfl⟩
  · refine ⟨zs.take len, by rw [List.length_take]; omega, by omega, ?_⟩
    by_cases h0 : len = 0
    · subst h0; exact .inl (by simp)
    · obtain ⟨c, o, sp⟩ := x
      have hlt : ∀ i, i < len → (zs.take len)[i]? = some (zs.getD i 0) := fun i hi => by
        rw [List.getElem?_take, if_pos hi]
        simp [List.getD, List.getElem?_eq_getElem (show i < zs.length by omega)]
      have hc0 := h4 0 (by omega)
      cases sp with
      | none =>
        refine .inr ⟨c, o, rfl, ?_, fun i z hi => ?_⟩
        · rcases Nat.lt_or_ge c w.heap.size with hlt' | hge
          · exact hlt'
          · simp [World.cell?, Addr.add, Array.getElem?_eq_none hge] at hc0
        · have hil : i < len := by
            have := (List.getElem?_eq_some_iff.1 hi).1
            rw [List.length_take] at this; omega
          have hci := h4 i (by omega)
          rw [hlt i hil] at hi
          injection hi with hi
          rw [← hi, ← hci]
          have hadd : (⟨c, o, none⟩ : Addr).add i = ⟨c, o + i, none⟩ := by unfold Addr.add; split <;> simp_all
          rw [hadd]
      | some s =>
        exfalso
        have hc1 := h4 0 (by omega)
        simp [World.cell?, Addr.add] at hc1
        split at hc1 <;> cases hc1

theorem lt_ext : ∀ (a b : List Int), a.Pairwise (· < ·) → b.Pairwise (· < ·) → (∀ x, x ∈ a ↔ x ∈ b) → a = b
  | [], [], _, _, _ => rfl
  | [], y :: b, _, _, h => by simpa using (h y).2 (by simp)
  | x :: a, [], _, _, h => by simpa using (h x).1 (by simp)
  | x :: a, y :: b, ha, hb, h => by
    rw [List.pairwise_cons] at ha hb
    have hxy : x = y := by
      rcases List.mem_cons.1 ((h x).1 (by simp)) with h1 | h1
      · exact h1
      · rcases List.mem_cons.1 ((h y).2 (by simp)) with h2 | h2
        · exact h2.symm
        · have := hb.1 x h1
          have := ha.1 y h2
          omega
    subst hxy
    congr 1
    refine lt_ext a b ha.2 hb.2 fun z => ⟨fun hz => ?_, fun hz => ?_⟩
    · have h1 := ha.1 z hz
      rcases List.mem_cons.1 ((h z).1 (by simp [hz])) with h2 | h2
      · omega
      · exact h2
    · have h1 := hb.1 z hz
      rcases List.mem_cons.1 ((h z).2 (by simp [hz])) with h2 | h2
      · omega
      · exact h2
/-- Numbers lie in memory, as a slice. -/
def ZAs (w : World) (v : Value) (zs : List Int) : Prop := ∃ A cap, v = .slice A zs.length cap ∧ zs.length ≤ maxLen ∧ ZA w A zs
theorem ZAs.nil (w : World) : ZAs w (.slice none 0 0) [] := ⟨none, 0, rfl, by simp, .inl rfl⟩
theorem ZAs.step {w w' : World} {v : Value} {zs : List Int} (h : ZAs w v zs) (hb : Below w.heap.size w w') : ZAs w' v zs := by
  obtain ⟨A, cap, e, hm, h⟩ := h
  exact ⟨A, cap, e, hm, h.step hb⟩
theorem ZAs.of_own {w : World} {base : Nat} {v : Value} {zs : List Int} {t : TypeId} (h : w.ownsRow base t 1 v zs.length (zs.map (Value.int .i64))) (hm : zs.length ≤ maxLen) : ZAs w v zs := by
  by_cases h0 : zs = []
  · subst h0
    rcases h.2 with ⟨h1, _⟩ | ⟨g, cap, cur, h1, _⟩
    · rw [h1]; exact ZAs.nil w
    · exact ⟨_, cap, h1, hm, .inl rfl⟩
  · obtain ⟨g, cap, hv, _, hlt⟩ := h.form (List.length_pos_iff.2 h0)
    subst hv
    refine ⟨_, cap, rfl, hm, .inr ⟨g, 0, rfl, hlt, fun i z hi => ?_⟩⟩
    have hil : i < zs.length := (List.getElem?_eq_some_iff.1 hi).1
    rw [Nat.zero_add, h.cellAt i (by omega), List.getElem?_map, hi]
    rfl
/-- A slice of numbers comes back, in memory of the call's own. -/
def RetZs (zs : List Int) (w : World) (e : Ending) (w' : World) : Prop := ∃ v, e = .returned v ∧ ZAs w' v zs ∧ Below w.heap.size w w'
theorem int_info : (Try.prog.info? 3).map (fun i => (i.zero, i.size, i.bytes)) = some (some (.int .i64 0), 1, 8) := by kernel_rfl

def SP.zs (l : List Int) : SP := ⟨fun v w => ZAs w v l, fun _ _ _ hb h => h.step hb⟩

end Go.Proofs.Ytpoagdffpajdjaa
