/-
  Sorting and Compact of lists of numbers, in plain Lean (the library's contracts are laid by the text Shelf).
-/
import Derived.Test.YtjnaphhbkbigcaaInts
import Derived.Test.YtjnaphhbkbigcaaShelf
import Derived.Lib.OwnBridge
import Derived.Sort.OwnSortedInts
namespace Go.Proofs.Ytjnaphhbkbigcaa
open Go.RowKit Go.Sort
set_option linter.unusedVariables false
set_option linter.unusedSimpArgs false

theorem compact_lt {zs : List Int} (h : zs.Pairwise (· ≤ ·)) : (Lib.compact zs).Pairwise (· < ·) := by
  unfold Lib.compact Lib.compactUpTo
  rw [List.pairwise_map, List.pairwise_filter]
  refine (List.Pairwise.imp_of_mem ?_ (List.pairwise_lt_range (n := zs.length)))
  intro i j hi hj hij hki hkj
  have hi' : i < zs.length := List.mem_range.1 hi
  have hj' : j < zs.length := List.mem_range.1 hj
  rw [List.pairwise_iff_getElem] at h
  have e : ∀ k (hk : k < zs.length), zs.toArray[k]! = zs[k] := fun k hk => by simp [hk]
  simp only [Lib.keeps, decide_eq_true_eq] at hkj
  rw [e j hj', e (j - 1) (by omega)] at hkj
  rw [e i hi', e j hj']
  have h1 := h (j - 1) j (by omega) hj' (by omega)
  rcases hkj with h2 | h2
  · omega
  · by_cases hij2 : i = j - 1
    · subst hij2; omega
    · have := h i (j - 1) hi' (by omega) (by omega)
      omega
theorem compact_mem {zs : List Int} (x : Int) : x ∈ Lib.compact zs ↔ x ∈ zs := by
  have e : ∀ k (hk : k < zs.length), zs.toArray[k]! = zs[k] := fun k hk => by simp [hk]
  unfold Lib.compact Lib.compactUpTo
  rw [List.mem_map]
  constructor
  · rintro ⟨k, hk, rfl⟩
    have hk' : k < zs.length := List.mem_range.1 (List.mem_filter.1 hk).1
    rw [e k hk']
    exact List.getElem_mem hk'
  · intro hx
    have hn : ∀ n (hn : n < zs.length), zs[n] = x → ∃ k, k ∈ (List.range zs.length).filter (Lib.keeps zs.toArray) ∧ zs.toArray[k]! = x := by
      intro n
      induction n with
      | zero =>
        intro hn h0
        exact ⟨0, List.mem_filter.2 ⟨List.mem_range.2 hn, by simp [Lib.keeps]⟩, by rw [e 0 hn]; exact h0⟩
      | succ n ih =>
        intro hn h0
        by_cases hp : zs[n]'(by omega) = x
        · exact ih (by omega) hp
        · refine ⟨n + 1, List.mem_filter.2 ⟨List.mem_range.2 hn, ?_⟩, by rw [e _ hn]; exact h0⟩
          simp only [Lib.keeps, decide_eq_true_eq]
          right
          rw [e _ hn, Nat.add_sub_cancel, e n (by omega), h0]
          exact fun h => hp h.symm
    obtain ⟨n, hlt, hn'⟩ := List.getElem_of_mem hx
    exact hn n hlt hn'
theorem sort_le (zs : List Int) : (zs.mergeSort (fun x y => decide (x ≤ y))).Pairwise (· ≤ ·) := by
  have := List.pairwise_mergeSort (le := fun (x y : Int) => decide (x ≤ y)) (fun a b c h1 h2 => by simp only [decide_eq_true_eq] at *; omega) (fun a b => by simp only [Bool.or_eq_true, decide_eq_true_eq]; omega) zs
  exact this.imp (fun h => by simpa using h)

end Go.Proofs.Ytjnaphhbkbigcaa
