/-
  The law VolumeStripes in plain Lean: the law's own striped volume and its pieces.
-/
import Derived.Test.YtdeggdbaeeamiaaVolJ
namespace Go.Proofs.Ytdeggdbaeeamiaa
open Go.RowKit
set_option linter.unusedVariables false
set_option linter.unusedSimpArgs false

/-- The parts of the law's striped volume: the drives one by one, equal counts. -/
def SL (c : Int) (L : List Seg) : Prop := ∀ (j : Nat) (x : Seg), L[j]? = some x → x.1 = (j : Int) ∧ 0 ≤ x.2.1 ∧ x.2.1 ≤ 4 ∧ x.2.2 = 4 * c
theorem SL.nil (c : Int) : SL c [] := fun j x h => by simp at h
theorem SL.snoc {c y : Int} {L : List Seg} (h : SL c L) (y0 : 0 ≤ y) (y1 : y ≤ 4) : SL c (L ++ [((L.length : Int), y, 4 * c)]) := by
  intro j x hx
  by_cases hj : j < L.length
  · rw [List.getElem?_append_left hj] at hx
    exact h j x hx
  · rw [List.getElem?_append_right (by omega)] at hx
    have : j = L.length := by
      have := (List.getElem?_eq_some_iff.1 hx).1
      simp at this; omega
    subst this
    simp at hx
    subst hx
    exact ⟨rfl, y0, y1, rfl⟩
theorem SL.att {c : Int} {L : List Seg} (h : SL c L) {j : Nat} (hj : j < L.length) : (at0 L j).1 = (j : Int) ∧ 0 ≤ (at0 L j).2.1 ∧ (at0 L j).2.1 ≤ 4 ∧ (at0 L j).2.2 = 4 * c := by
  have he : L[j]? = some L[j] := List.getElem?_eq_getElem hj
  rw [at0_some he]
  exact h j _ he
theorem SL.sum {c : Int} {L : List Seg} (h : SL c L) : ∀ k, k ≤ L.length → sumK L k = 4 * c * (k : Int)
  | 0, _ => by simp [sumK]
  | k + 1, hk => by
    have he : L[k]? = some L[k] := List.getElem?_eq_getElem (by omega)
    rw [sumK_succ he, SL.sum h k (by omega), (h k _ he).2.2.2, Int.natCast_add, Int.mul_add]
    omega
section
variable {c : Int} {L : List Seg}
theorem mul4 {c : Int} {k : Nat} (c1 : c ≤ 4) (c0 : 1 ≤ c) (h4 : k ≤ 4) : 4 * c * (k : Int) ≤ 64 ∧ 0 ≤ 4 * c * (k : Int) := by
  have : k = 0 ∨ k = 1 ∨ k = 2 ∨ k = 3 ∨ k = 4 := by omega
  rcases this with rfl | rfl | rfl | rfl | rfl <;> omega
theorem SL.sound (h : SL c L) (h1 : 1 ≤ L.length) (h4 : L.length ≤ 4) (c0 : 1 ≤ c) (c1 : c ≤ 4) : soundB 2 c L = true := by
  have hs : L.all segB = true := by
    rw [List.all_eq_true]
    intro x hx
    obtain ⟨j, hj⟩ := List.getElem?_of_mem hx
    obtain ⟨a, b, d, e⟩ := h j x hj
    have := (List.getElem?_eq_some_iff.1 hj).1
    simp [segB]; omega
  rw [sound_all h1 h4 hs]
  · unfold sizeV
    rw [if_neg (by omega), h.sum _ (Nat.le_refl _)]
    have := (mul4 c1 c0 h4).1
    simp; omega
  · intro k hk
    refine row_ok (fun m hm => ?_) (.inr ?_)
    · obtain ⟨a, _⟩ := h.att hk
      obtain ⟨b, _⟩ := h.att (j := m) (by omega)
      have : ¬ ((k : Int) = (m : Int)) := by omega
      simp [badB, ovB, a, b, this]
    · rw [(h.att hk).2.2.2, (h.att (j := 0) (by omega)).2.2.2]
  · have e : (at0 L 0).2.2 = 4 * c := (h.att (j := 0) (by omega)).2.2.2
    simp [kindB, e, c0]
theorem SL.size (h : SL c L) (h1 : 1 ≤ L.length) (h4 : L.length ≤ 4) (c0 : 1 ≤ c) (c1 : c ≤ 4) : szB 2 c L = 4 * c * (L.length : Int) := by
  unfold szB
  rw [if_pos (h.sound h1 h4 c0 c1)]
  unfold sizeV
  rw [if_neg (by omega), h.sum _ (Nat.le_refl _)]
theorem plc_str (h : 1 ≤ L.length) (c0 : 1 ≤ c) (q : Int) : (plc 2 c L (q * c)).1 = (q % L.length).toNat ∧ (plc 2 c L (q * c)).2.2 = c := by
  unfold plc
  rw [if_pos rfl, Int.mul_ediv_cancel _ (by omega), Int.mul_emod_left, Int.sub_zero]
  exact ⟨rfl, rfl⟩
theorem runP_str (h : SL c L) (h1 : 1 ≤ L.length) (c0 : 1 ≤ c) (F : Int) : ∀ (f i : Nat), i ≤ L.length → L.length - i ≤ f →
    (runP 2 c L (F * c) ((L.length : Int) * c) f ((i : Int) * c)).length = L.length - i ∧ ∀ j, j < L.length - i → ∃ s o, (runP 2 c L (F * c) ((L.length : Int) * c) f ((i : Int) * c))[j]? = some ((F + i + j) % L.length, s, c, o)
  | 0, i, hi, hf => by
    refine ⟨by simp [runP]; omega, fun j hj => by omega⟩
  | f + 1, i, hi, hf => by
    simp only [runP]
    by_cases hlt : i < L.length
    · have hc : (i : Int) * c < (L.length : Int) * c := Int.mul_lt_mul_of_pos_right (by omega) (by omega)
      have he : F * c + (i : Int) * c = (F + i) * c := by rw [Int.add_mul]
      obtain ⟨e1, e2⟩ := plc_str (L := L) h1 c0 (F + i)
      have hm : ((i : Int) + 1) * c ≤ (L.length : Int) * c := Int.mul_le_mul_of_nonneg_right (by omega) (by omega)
      have ha : ((i : Int) + 1) * c = (i : Int) * c + c := by rw [Int.add_mul, Int.one_mul]
      rw [if_pos hc, he, e1, e2, Int.min_eq_left (show c ≤ (L.length : Int) * c - (i : Int) * c by omega), ← ha]
      have hi1 : ((i : Int) + 1) = ((i + 1 : Nat) : Int) := by omega
      rw [hi1]
      obtain ⟨q1, q2⟩ := runP_str h h1 c0 F f (i + 1) (by omega) (by omega)
      have n0 := Int.emod_nonneg (F + i) (show (L.length : Int) ≠ 0 by omega)
      have n1 := Int.emod_lt_of_pos (F + i) (show (0 : Int) < L.length by omega)
      refine ⟨by rw [List.length_cons, q1]; omega, fun j hj => ?_⟩
      match j with
      | 0 =>
        obtain ⟨a, _⟩ := h.att (j := ((F + i) % L.length).toNat) (by omega)
        refine ⟨(plc 2 c L ((F + i) * c)).2.1, (i : Int) * c, ?_⟩
        rw [List.getElem?_cons_zero, a, Int.toNat_of_nonneg n0, show F + (i : Int) + ((0 : Nat) : Int) = F + i by omega]
      | j + 1 =>
        obtain ⟨s, o, e⟩ := q2 j (by omega)
        refine ⟨s, o, ?_⟩
        rw [List.getElem?_cons_succ, e, show F + ((i + 1 : Nat) : Int) + (j : Int) = F + (i : Int) + ((j + 1 : Nat) : Int) by omega]
    · rw [if_neg (by have : i = L.length := by omega
                     subst this; omega)]
      exact ⟨by simp; omega, fun j hj => by omega⟩
/-- What the law needs of the pieces. -/
theorem stripes (h : SL c L) (h1 : 1 ≤ L.length) (h4 : L.length ≤ 4) (c0 : 1 ≤ c) (c1 : c ≤ 4) {F : Int} (F0 : 0 ≤ F) (F1 : F ≤ 3 * (L.length : Int)) :
    (mapP 2 c L (F * c) ((L.length : Int) * c) 0).length = L.length ∧ ∀ (j : Nat), j < L.length → ∃ s o, (mapP 2 c L (F * c) ((L.length : Int) * c) 0)[j]? = some ((F + j) % L.length, s, c, o) := by
  have hz := h.size h1 h4 c0 c1
  have m1 : F * c ≤ 3 * (L.length : Int) * c := Int.mul_le_mul_of_nonneg_right F1 (by omega)
  have m2 : 0 ≤ F * c := Int.mul_nonneg F0 (by omega)
  have m3 : (1 : Int) * c ≤ (L.length : Int) * c := Int.mul_le_mul_of_nonneg_right (by omega) (by omega)
  have m4 : 4 * c * (L.length : Int) = 4 * ((L.length : Int) * c) := by rw [Int.mul_assoc, Int.mul_comm c]
  have m5 : 3 * (L.length : Int) * c = 3 * ((L.length : Int) * c) := by rw [Int.mul_assoc]
  have m6 : (L.length : Int) * 1 ≤ (L.length : Int) * c := Int.mul_le_mul_of_nonneg_left (by omega) (by omega)
  have hok := ok_mk (kd := 2) (ch := c) (L := L) (s := F * c) (c := (L.length : Int) * c) (by omega) (by omega) (by omega) (by omega)
  unfold mapP
  rw [hok, if_pos rfl, if_neg (by omega)]
  have := runP_str h h1 c0 F ((L.length : Int) * c).toNat 0 (by omega) (by omega)
  simp only [Int.natCast_zero, Int.zero_mul, Nat.sub_zero, Int.add_zero] at this
  exact this
end
/-- Which drives were seen. -/
def seenB (F : Int) (k i : Nat) (d : Int) : Bool := (List.range i).any (fun j => (F + (j : Int)) % (k : Int) == d)
theorem seen_zero (F : Int) (k : Nat) (d : Int) : seenB F k 0 d = false := rfl
theorem seen_succ (F : Int) (k i : Nat) (d : Int) : seenB F k (i + 1) d = (seenB F k i d || (F + (i : Int)) % (k : Int) == d) := by
  simp [seenB, List.range_succ]
theorem seen_new {F : Int} {k i : Nat} (h4 : k ≤ 4) (hi : i < k) : seenB F k i ((F + (i : Int)) % (k : Int)) = false := by
  unfold seenB
  rw [List.any_eq_false]
  intro j hj
  have hj' : j < i := List.mem_range.1 hj
  have : k = 1 ∨ k = 2 ∨ k = 3 ∨ k = 4 := by omega
  simp only [beq_iff_eq]
  rcases this with rfl | rfl | rfl | rfl <;> omega

end Go.Proofs.Ytdeggdbaeeamiaa
