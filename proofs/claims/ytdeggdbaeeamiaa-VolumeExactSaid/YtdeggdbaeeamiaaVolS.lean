/-
  The drives of a volume: in plain Lean, and package volume's and the reference's Drives by contracts.
-/
import Derived.Test.YtdeggdbaeeamiaaVolN
import Derived.Test.YtdeggdbaeeamiaaShelf
import Derived.Lib.OwnBridge
import Derived.Sort.OwnSortedInts
namespace Go.Proofs.Ytdeggdbaeeamiaa
open Go.RowKit Go.Sort
set_option linter.unusedVariables false
set_option linter.unusedSimpArgs false

theorem lt_ext : ∀ (a b : List Int), a.Pairwise (· < ·) → b.Pairwise (· < ·) → (∀ x, x ∈ a ↔ x ∈ b) → a = b
  | [], [], _, _, _ => rfl
  | [], y :: b, _, _, h => by simpa using (h y).2 (by simp)
  | x :: a, [], _, _, h => by simpa using (h x).1 (by simp)
  | x :: a, y :: b, ha, hb, h => by
    rw [List.pairwise_cons] at ha hb
    have hxy : x = y := by
      rcases List.mem_cons.1 ((h x).1 (by simp)) with h1 | h1
      · exact h1
      · rcases List.mem_cons.1 ((h y).2 (by simp)) with h2 | h2
        · exact h2.symm
        · have := hb.1 x h1
          have := ha.1 y h2
          omega
    subst hxy
    congr 1
    refine lt_ext a b ha.2 hb.2 fun z => ⟨fun hz => ?_, fun hz => ?_⟩
    · have h1 := ha.1 z hz
      rcases List.mem_cons.1 ((h z).1 (by simp [hz])) with h2 | h2
      · omega
      · exact h2
    · have h1 := hb.1 z hz
      rcases List.mem_cons.1 ((h z).2 (by simp [hz])) with h2 | h2
      · omega
      · exact h2
theorem compact_lt {zs : List Int} (h : zs.Pairwise (· ≤ ·)) : (Lib.compact zs).Pairwise (· < ·) := by
  unfold Lib.compact Lib.compactUpTo
  rw [List.pairwise_map, List.pairwise_filter]
  refine (List.Pairwise.imp_of_mem ?_ (List.pairwise_lt_range (n := zs.length)))
  intro i j hi hj hij hki hkj
  have hi' : i < zs.length := List.mem_range.1 hi
  have hj' : j < zs.length := List.mem_range.1 hj
  rw [List.pairwise_iff_getElem] at h
  have e : ∀ k (hk : k < zs.length), zs.toArray[k]! = zs[k] := fun k hk => by simp [hk]
  simp only [Lib.keeps, decide_eq_true_eq] at hkj
  rw [e j hj', e (j - 1) (by omega)] at hkj
  rw [e i hi', e j hj']
  have h1 := h (j - 1) j (by omega) hj' (by omega)
  rcases hkj with h2 | h2
  · omega
  · by_cases hij2 : i = j - 1
    · subst hij2; omega
    · have := h i (j - 1) hi' (by omega) (by omega)
      omega
theorem compact_mem {zs : List Int} (x : Int) : x ∈ Lib.compact zs ↔ x ∈ zs := by
  have e : ∀ k (hk : k < zs.length), zs.toArray[k]! = zs[k] := fun k hk => by simp [hk]
  unfold Lib.compact Lib.compactUpTo
  rw [List.mem_map]
  constructor
  · rintro ⟨k, hk, rfl⟩
    have hk' : k < zs.length := List.mem_range.1 (List.mem_filter.1 hk).1
    rw [e k hk']
    exact List.getElem_mem hk'
  · intro hx
    have hn : ∀ n (hn : n < zs.length), zs[n] = x → ∃ k, k ∈ (List.range zs.length).filter (Lib.keeps zs.toArray) ∧ zs.toArray[k]! = x := by
      intro n
      induction n with
      | zero =>
        intro hn h0
        exact ⟨0, List.mem_filter.2 ⟨List.mem_range.2 hn, by simp [Lib.keeps]⟩, by rw [e 0 hn]; exact h0⟩
      | succ n ih =>
        intro hn h0
        by_cases hp : zs[n]'(by omega) = x
        · exact ih (by omega) hp
        · refine ⟨n + 1, List.mem_filter.2 ⟨List.mem_range.2 hn, ?_⟩, by rw [e _ hn]; exact h0⟩
          simp only [Lib.keeps, decide_eq_true_eq]
          right
          rw [e _ hn, Nat.add_sub_cancel, e n (by omega), h0]
          exact fun h => hp h.symm
    obtain ⟨n, hlt, hn'⟩ := List.getElem_of_mem hx
    exact hn n hlt hn'
/-- The drives, ascending. -/
def rDr (L : List Seg) : List Int := [0, 1, 2, 3].filter (fun d => L.any (fun p => p.1 == d))
def drP (L : List Seg) : List Int := Lib.compact ((L.map (·.1)).mergeSort (fun x y => decide (x ≤ y)))
theorem sort_le (zs : List Int) : (zs.mergeSort (fun x y => decide (x ≤ y))).Pairwise (· ≤ ·) := by
  have := List.pairwise_mergeSort (le := fun (x y : Int) => decide (x ≤ y)) (fun a b c h1 h2 => by simp only [decide_eq_true_eq] at *; omega) (fun a b => by simp only [Bool.or_eq_true, decide_eq_true_eq]; omega) zs
  exact this.imp (fun h => by simpa using h)
theorem dr_eq {L : List Seg} (h : L.all segB = true) : drP L = rDr L := by
  refine lt_ext _ _ (compact_lt (sort_le _)) ((by decide : [(0 : Int), 1, 2, 3].Pairwise (· < ·)).filter _) fun x => ?_
  unfold drP rDr
  rw [compact_mem, (List.mergeSort_perm _ _).mem_iff, List.mem_map, List.mem_filter, List.any_eq_true]
  constructor
  · rintro ⟨p, hp, rfl⟩
    obtain ⟨a, b, _⟩ := seg_t (List.all_eq_true.1 h p hp)
    refine ⟨?_, p, hp, by simp⟩
    have : p.1 = 0 ∨ p.1 = 1 ∨ p.1 = 2 ∨ p.1 = 3 := by omega
    simpa using this
  · rintro ⟨_, p, hp, he⟩
    exact ⟨p, hp, by simpa using he⟩
def dvP (kd ch : Int) (L : List Seg) : List Int := if soundB kd ch L = true then rDr L else []
/-- Numbers lie in memory, as a slice. -/
def ZAs (w : World) (v : Value) (zs : List Int) : Prop := ∃ A cap, v = .slice A zs.length cap ∧ zs.length ≤ maxLen ∧ ZA w A zs
theorem ZAs.nil (w : World) : ZAs w (.slice none 0 0) [] := ⟨none, 0, rfl, by simp, .inl rfl⟩
theorem ZAs.step {w w' : World} {v : Value} {zs : List Int} (h : ZAs w v zs) (hb : Below w.heap.size w w') : ZAs w' v zs := by
  obtain ⟨A, cap, e, hm, h⟩ := h
  exact ⟨A, cap, e, hm, h.step hb⟩
theorem ZAs.of_own {w : World} {base : Nat} {v : Value} {zs : List Int} {t : TypeId} (h : w.ownsRow base t 1 v zs.length (zs.map (Value.int .i64))) (hm : zs.length ≤ maxLen) : ZAs w v zs := by
  by_cases h0 : zs = []
  · subst h0
    rcases h.2 with ⟨h1, _⟩ | ⟨g, cap, cur, h1, _⟩
    · rw [h1]; exact ZAs.nil w
    · exact ⟨_, cap, h1, hm, .inl rfl⟩
  · obtain ⟨g, cap, hv, _, hlt⟩ := h.form (List.length_pos_iff.2 h0)
    subst hv
    refine ⟨_, cap, rfl, hm, .inr ⟨g, 0, rfl, hlt, fun i z hi => ?_⟩⟩
    have hil : i < zs.length := (List.getElem?_eq_some_iff.1 hi).1
    rw [Nat.zero_add, h.cellAt i (by omega), List.getElem?_map, hi]
    rfl
/-- A slice of numbers comes back, in memory of the call's own. -/
def RetZs (zs : List Int) (w : World) (e : Ending) (w' : World) : Prop := ∃ v, e = .returned v ∧ ZAs w' v zs ∧ Below w.heap.size w w'
theorem int_info : (Try.prog.info? 3).map (fun i => (i.zero, i.size, i.bytes)) = some (some (.int .i64 0), 1, 8) := by kernel_rfl

end Go.Proofs.Ytdeggdbaeeamiaa
