/-
  Volumes in plain Lean, and the smallest functions of package volume by contracts.
-/
import Derived.Test.YtdeggdbaeeamiaaBase
import Derived.Outline
namespace Go.Proofs.Ytdeggdbaeeamiaa
open Go.RowKit
set_option linter.unusedVariables false
set_option linter.unusedSimpArgs false

/-- A part: drive, start, count. -/
abbrev Seg := Int × Int × Int
abbrev segV (x : Seg) : Value := .agg #[.int .i64 x.1, .int .i64 x.2.1, .int .i64 x.2.2]
abbrev volV (kd ch : Int) (A : Option Addr) (n cap : Nat) : Value := .agg #[.int .i64 kd, .int .i64 ch, .slice A n cap]
def segB (x : Seg) : Bool := decide (0 ≤ x.1 ∧ x.1 < 4 ∧ 0 ≤ x.2.1 ∧ x.2.1 ≤ 128 ∧ 1 ≤ x.2.2 ∧ x.2.2 ≤ 128)
theorem seg_t {x : Seg} (h : segB x = true) : 0 ≤ x.1 ∧ x.1 < 4 ∧ 0 ≤ x.2.1 ∧ x.2.1 ≤ 128 ∧ 1 ≤ x.2.2 ∧ x.2.2 ≤ 128 := by simpa [segB] using h
def ovB (x y : Seg) : Bool := decide (x.1 = y.1 ∧ x.2.1 < y.2.1 + y.2.2 ∧ y.2.1 < x.2.1 + x.2.2)

/-- The parts lie in memory, below what is made later. -/
def PA (w : World) (A : Option Addr) (L : List Seg) : Prop :=
  L = [] ∨ ∃ b o, A = some ⟨b, o, none⟩ ∧ b < w.heap.size ∧ ∀ i d s c, L[i]? = some (d, s, c) → w.cell? ⟨b, o + i * 3, none⟩ = some (.int .i64 d) ∧ w.cell? ⟨b, o + i * 3 + 1, none⟩ = some (.int .i64 s) ∧ w.cell? ⟨b, o + i * 3 + 2, none⟩ = some (.int .i64 c)
theorem PA.step {w w' : World} {A : Option Addr} {L : List Seg} (h : PA w A L) (hb : Below w.heap.size w w') : PA w' A L := by
  rcases h with h | ⟨b, o, h1, h2, h3⟩
  · exact .inl h
  · refine .inr ⟨b, o, h1, Nat.lt_of_lt_of_le h2 hb.size, fun i d s c hi => ?_⟩
    obtain ⟨c0, c1, c2⟩ := h3 i d s c hi
    exact ⟨(hb.cell (p := ⟨b, _, none⟩) h2).trans c0, (hb.cell (p := ⟨b, _, none⟩) h2).trans c1, (hb.cell (p := ⟨b, _, none⟩) h2).trans c2⟩
theorem PA.alloc {w : World} {A : Option Addr} {L : List Seg} (h : PA w A L) (o : Obj) : PA (w.alloc o) A L := h.step ((Below.refl _ _).alloc (Nat.le_refl _) _)
theorem PA.drewN {w : World} {A : Option Addr} {L : List Seg} (h : PA w A L) (n : Nat) : PA (w.drewN n) A L := h
theorem PA.at_ {w : World} {A : Option Addr} {L : List Seg} (h : PA w A L) {i : Nat} (hi : i < L.length) : ∃ b o d s c, A = some ⟨b, o, none⟩ ∧ b < w.heap.size ∧ L[i]? = some (d, s, c) ∧
    w.cell? ⟨b, o + i * 3, none⟩ = some (.int .i64 d) ∧ w.cell? ⟨b, o + i * 3 + 1, none⟩ = some (.int .i64 s) ∧ w.cell? ⟨b, o + i * 3 + 2, none⟩ = some (.int .i64 c) := by
  rcases h with h | ⟨b, o, h1, h2, h3⟩
  · subst h; simp at hi
  · have he : L[i]? = some L[i] := List.getElem?_eq_getElem hi
    obtain ⟨c0, c1, c2⟩ := h3 i _ _ _ he
    exact ⟨b, o, _, _, _, h1, h2, he, c0, c1, c2⟩

theorem part_w (x : Seg) (w : World) : Calls Try.prog 38 #[segV x] w (RetB (segB x) w) := by
  obtain ⟨d, s, c⟩ := x
  go_enter Try.func38, Try.ntmps38
  go_wp2
  all_goals go_ret
  all_goals exact ⟨ret_bool (by rw [Bool.eq_iff_iff]; simp [segB]; try omega), (Below.refl _ _).alloc (Nat.le_refl _) _⟩
theorem sound1_w (x : Seg) (w : World) : Calls Try.prog 37 #[segV x] w (RetB (!segB x) w) := by
  obtain ⟨d, s, c⟩ := x
  go_enter Try.func37, Try.ntmps37
  go_wp2_with (go_at_call 38; (with_reducible refine Calls.mono (part_w (d, s, c) _) ?_); rintro e w1 ⟨rfl, hb⟩)
  go_ret
  exact ⟨rfl, bl_step ((Below.refl _ _).alloc (Nat.le_refl _) _) hb⟩
theorem overlap_w (x y : Seg) (w : World) (hx : segB x = true) (hy : segB y = true) : Calls Try.prog 39 #[segV x, segV y] w (RetB (ovB x y) w) := by
  obtain ⟨d, s, c⟩ := x
  obtain ⟨d', s', c'⟩ := y
  obtain ⟨a1, a2, a3, a4, a5, a6⟩ := seg_t hx
  obtain ⟨b1, b2, b3, b4, b5, b6⟩ := seg_t hy
  simp only at a1 a2 a3 a4 a5 a6 b1 b2 b3 b4 b5 b6
  clear hx hy
  go_enter Try.func39, Try.ntmps39
  go_wp2
  all_goals go_ret
  all_goals exact ⟨ret_bool (by rw [Bool.eq_iff_iff]; simp [ovB]; try omega), ((Below.refl _ _).alloc (Nat.le_refl _) _).alloc (by simp) _⟩

/-- The first place at which p holds, or -1. -/
def idxF (p : Seg → Bool) : List Seg → Nat → Int
  | [], _ => -1
  | x :: l, k => if p x = true then (k : Int) else idxF p l (k + 1)

end Go.Proofs.Ytdeggdbaeeamiaa
