/-
  The law StatNotes: what the walk needs of numbers.
-/
import Derived.Test.YtehhdeafimomfaaStat6
import Derived.Test.YtehhdeafimomfaaQTail
namespace Go.Proofs.Ytehhdeafimomfaa
open Go.RowKit
set_option linter.unusedVariables false

/-- The sum of the first m buckets. -/
def sumG (L : List Int) : Nat → Int
  | 0 => 0
  | m + 1 => sumG L m + lget L (5 + m)

/-- A tally of n notes. -/
def Tal (n : Nat) (L : List Int) : Prop := L.length = 21 ∧ lget L 0 = n ∧ sumG L 16 = n ∧ ∀ k, k < 16 → 0 ≤ lget L (5 + k) ∧ lget L (5 + k) ≤ n

theorem sum_note (L : List Int) (hL : L.length = 21) (c e x : Int) (n : Nat) (hn : n < 1000) (hb : ∀ k, k < 16 → 0 ≤ lget L (5 + k) ∧ lget L (5 + k) ≤ n) :
    ∀ m, m ≤ 16 → sumG (noteL L c e x) m = sumG L m + if bkN (clI x).toNat < m then 1 else 0
  | 0, _ => by simp [sumG]
  | m + 1, hm => by
    have ih := sum_note L hL c e x n hn hb m (by omega)
    have g := note_get L hL c e x (5 + m) (by omega)
    rw [if_neg (by omega), if_neg (by omega), if_neg (by omega), if_neg (by omega), if_neg (by omega)] at g
    have ⟨b0, b1⟩ := hb m (by omega)
    have hw : wrap64 (lget L (5 + m) + 1) = lget L (5 + m) + 1 := IntWalk.wrap64_in _ (by omega)
    rw [hw] at g
    simp only [sumG, ih, g]
    clear hw g ih
    generalize bkN (clI x).toNat = K
    generalize lget L (5 + m) = y
    generalize sumG L m = z
    repeat' split
    all_goals omega

theorem Tal.note {n : Nat} {L : List Int} (h : Tal n L) (hn : n < 1000) (c e x : Int) : Tal (n + 1) (noteL L c e x) := by
  obtain ⟨hL, h0, hs, hb⟩ := h
  have hk : bkN (clI x).toNat ≤ 15 := aux_le 15 _
  refine ⟨by rw [noteL_len, hL], ?_, ?_, ?_⟩
  · rw [note_get L hL c e x 0 (by omega), if_pos rfl, h0, IntWalk.wrap64_in _ (by omega)]
    omega
  · rw [sum_note L hL c e x n hn hb 16 (by omega), if_pos (by omega), hs]
    omega
  · intro k hk16
    have g := note_get L hL c e x (5 + k) (by omega)
    rw [if_neg (by omega), if_neg (by omega), if_neg (by omega), if_neg (by omega), if_neg (by omega)] at g
    have ⟨b0, b1⟩ := hb k hk16
    rw [IntWalk.wrap64_in (lget L (5 + k) + 1) (by omega)] at g
    rw [g]
    split <;> omega

theorem Tal.zero : Tal 0 T0 := ⟨rfl, by kernel_rfl, by kernel_rfl, fun k hk => by
  have : lget T0 (5 + k) = 0 := by
    unfold lget T0
    rw [List.getD_eq_getElem?_getD, List.getElem?_replicate_of_lt (by omega)]
    rfl
  rw [this]; omega⟩

end Go.Proofs.Ytehhdeafimomfaa
