/-
  Places follow one another without a gap as far as the room says, in plain Lean.
-/
import Derived.Test.YtdeggdbaeeamiaaVolF
namespace Go.Proofs.Ytdeggdbaeeamiaa
open Go.RowKit
set_option linter.unusedVariables false
set_option linter.unusedSimpArgs false

theorem sumK_mono {L : List Seg} (h : ∀ x ∈ L, 1 ≤ x.2.2) : ∀ n i, i + n ≤ L.length → sumK L i + n ≤ sumK L (i + n)
  | 0, i, _ => by simp
  | n + 1, i, hi => by
    have hx : L[i + n]? = some L[i + n] := List.getElem?_eq_getElem (by omega)
    have h1 := h _ (List.mem_of_getElem? hx)
    have h2 := sumK_mono h n i (by omega)
    rw [show i + (n + 1) = (i + n) + 1 from rfl, sumK_succ hx]
    omega
/-- In a linear volume a sector is in the part whose range it is in. -/
theorem linP_eq {L : List Seg} {s : Int} {j : Nat} (h : ∀ x ∈ L, 1 ≤ x.2.2) (hj : j < L.length) (h1 : sumK L j ≤ s) (h2 : s < sumK L (j + 1)) : linP L s 0 = (j, s - sumK L j) := by
  have h0 : 0 ≤ sumK L j := by have := sumK_mono h j 0 (by omega); simp only [Nat.zero_add, sumK_zero] at this; omega
  have hm : sumK L (j + 1) ≤ sumK L L.length := by
    have := sumK_mono h (L.length - (j + 1)) (j + 1) (by omega)
    rw [show j + 1 + (L.length - (j + 1)) = L.length from by omega] at this
    omega
  obtain ⟨i, hi, e, a, b⟩ := linP_drop L s 0 (by omega) (by omega) h
  rw [e, Nat.zero_add]
  have hx : L[i]? = some L[i] := List.getElem?_eq_getElem hi
  rw [at0_some hx] at b
  have hs := sumK_succ hx
  have hij : i = j := by
    rcases Nat.lt_trichotomy i j with h3 | h3 | h3
    · have := sumK_mono h (j - (i + 1)) (i + 1) (by omega)
      rw [show i + 1 + (j - (i + 1)) = j from by omega] at this
      omega
    · exact h3
    · have := sumK_mono h (i - (j + 1)) (j + 1) (by omega)
      rw [show j + 1 + (i - (j + 1)) = i from by omega] at this
      omega
  rw [hij]
theorem plc_shift {kd ch : Int} {L : List Seg} {s k : Int} (hs : soundB kd ch L = true) (hk : kd ≠ 3) (s0 : 0 ≤ s) (k0 : 0 ≤ k) (s1 : s + k < sizeV kd L) (hr : k < (plc kd ch L s).2.2) :
    plc kd ch L (s + k) = ((plc kd ch L s).1, (plc kd ch L s).2.1 + k, (plc kd ch L s).2.2 - k) := by
  obtain ⟨h1, h4, ha, _, _, hz⟩ := sound_parts hs
  obtain ⟨hkd, hch⟩ := kind_cases hs
  rw [show sizeV kd L = sumK L L.length from by unfold sizeV; rw [if_neg hk]] at s1
  have hpos : ∀ x ∈ L, 1 ≤ x.2.2 := fun x hx => by obtain ⟨_, _, _, _, a, _⟩ := seg_t (List.all_eq_true.1 ha x hx); exact a
  by_cases h2 : kd = 2
  · obtain ⟨a, b, _⟩ := hch h2
    unfold plc at hr ⊢
    simp only [if_pos h2] at hr ⊢
    have e1 : (s + k) / ch = s / ch := by
      have e3 := Int.emod_nonneg s (show ch ≠ 0 by omega)
      have e5 := Int.mul_ediv_add_emod s ch
      rw [show s + k = (s % ch + k) + ch * (s / ch) from by omega, Int.add_mul_ediv_left _ _ (by omega), Int.ediv_eq_zero_of_lt (by omega) (by omega), Int.zero_add]
    have e2 : (s + k) % ch = s % ch + k := by
      have e5 := Int.mul_ediv_add_emod s ch
      have e6 := Int.mul_ediv_add_emod (s + k) ch
      rw [e1] at e6
      omega
    rw [e1, e2]
    simp only [Prod.mk.injEq, true_and]
    omega
  · obtain ⟨j, hj, hl, l0, l1⟩ := linP_drop L s 0 s0 (by omega) hpos
    unfold plc at hr ⊢
    simp only [if_neg h2] at hr ⊢
    rw [hl, Nat.zero_add] at hr ⊢
    simp only at hr ⊢
    have hx : L[j]? = some L[j] := List.getElem?_eq_getElem hj
    have hsj := sumK_succ hx
    rw [← at0_some hx] at hsj
    rw [linP_eq hpos hj (by omega) (by omega)]
    simp only [Prod.mk.injEq, true_and]
    omega

end Go.Proofs.Ytdeggdbaeeamiaa
