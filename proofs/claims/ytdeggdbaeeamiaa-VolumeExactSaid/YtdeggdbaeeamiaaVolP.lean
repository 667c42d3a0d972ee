/-
  The pieces of a request that grows by a sector, in plain Lean.
-/
import Derived.Test.YtdeggdbaeeamiaaVolO
namespace Go.Proofs.Ytdeggdbaeeamiaa
open Go.RowKit
set_option linter.unusedVariables false
set_option linter.unusedSimpArgs false

/-- The piece of one sector. -/
def onePc (kd ch : Int) (L : List Seg) (s i : Int) : Pc := ((at0 L (plc kd ch L (s + i)).1).1, (plc kd ch L (s + i)).2.1, 1, i)
theorem runP_grow {kd ch : Int} {L : List Seg} {s i : Int} (hs : soundB kd ch L = true) (hk : kd ≠ 3) (s0 : 0 ≤ s) (s1 : s + i < sizeV kd L) : ∀ (f : Nat) (off : Int), 0 ≤ off → off < i → i + 1 - off ≤ f →
    ∃ pre d a n o, runP kd ch L s i f off = pre ++ [(d, a, n, o)] ∧ 1 ≤ n ∧ n ≤ 128 ∧
      runP kd ch L s (i + 1) f off = if (plc kd ch L (s + (i - 1))).2.2 = 1 then pre ++ [(d, a, n, o)] ++ [onePc kd ch L s i] else pre ++ [(d, a, n + 1, o)]
  | 0, off, h0, h1, h2 => by omega
  | f + 1, off, h0, h1, h2 => by
    obtain ⟨r1, r2, r3⟩ := plc_range (s := s + off) hs hk (by omega) (by omega)
    simp only [runP]
    rw [if_pos h1, if_pos (show off < i + 1 by omega)]
    by_cases hq : (plc kd ch L (s + off)).2.2 ≤ i - off
    · rw [Int.min_eq_left hq, Int.min_eq_left (show (plc kd ch L (s + off)).2.2 ≤ i + 1 - off by omega)]
      by_cases hd : off + (plc kd ch L (s + off)).2.2 < i
      · obtain ⟨pre, d, a, n, o, e1, n0, n1, e2⟩ := runP_grow hs hk s0 s1 f (off + (plc kd ch L (s + off)).2.2) (by omega) hd (by omega)
        refine ⟨_ :: pre, d, a, n, o, by rw [e1]; rfl, n0, n1, ?_⟩
        rw [e2]
        split <;> rfl
      · have he : off + (plc kd ch L (s + off)).2.2 = i := by omega
        have hsh := plc_shift (s := s + off) (k := i - 1 - off) hs hk (by omega) (by omega) (by omega) (by omega)
        rw [show s + off + (i - 1 - off) = s + (i - 1) by omega] at hsh
        have hone : (plc kd ch L (s + (i - 1))).2.2 = 1 := by rw [hsh]; show _ - _ = _; omega
        obtain ⟨g, rfl⟩ : ∃ g, f = g + 1 := ⟨f - 1, by omega⟩
        refine ⟨[], (at0 L (plc kd ch L (s + off)).1).1, (plc kd ch L (s + off)).2.1, (plc kd ch L (s + off)).2.2, off, ?_, r2, r3, ?_⟩
        · rw [he, runP_done (g + 1) (Int.le_refl _)]
          rfl
        · rw [if_pos hone, he]
          simp only [runP]
          obtain ⟨q1, q2, q3⟩ := plc_range (s := s + i) hs hk (by omega) (by omega)
          rw [if_pos (show i < i + 1 by omega), show i + 1 - i = 1 by omega, Int.min_eq_right q2, runP_done g (Int.le_refl _)]
          rfl
    · have hsh := plc_shift (s := s + off) (k := i - 1 - off) hs hk (by omega) (by omega) (by omega) (by omega)
      rw [show s + off + (i - 1 - off) = s + (i - 1) by omega] at hsh
      have hone : ¬ (plc kd ch L (s + (i - 1))).2.2 = 1 := by rw [hsh]; show ¬ _ - _ = _; omega
      rw [Int.min_eq_right (show i - off ≤ (plc kd ch L (s + off)).2.2 by omega), Int.min_eq_right (show i + 1 - off ≤ (plc kd ch L (s + off)).2.2 by omega), runP_done f (show i ≤ off + (i - off) by omega), runP_done f (show i + 1 ≤ off + (i + 1 - off) by omega)]
      exact ⟨[], (at0 L (plc kd ch L (s + off)).1).1, (plc kd ch L (s + off)).2.1, i - off, off, rfl, by omega, by omega, by rw [if_neg hone, show i - off + 1 = i + 1 - off by omega]; rfl⟩
theorem runP_first {kd ch : Int} {L : List Seg} {s : Int} (hs : soundB kd ch L = true) (hk : kd ≠ 3) (s0 : 0 ≤ s) (s1 : s < sizeV kd L) (f : Nat) (hf : 1 ≤ f) : runP kd ch L s 1 f 0 = [onePc kd ch L s 0] := by
  obtain ⟨g, rfl⟩ : ∃ g, f = g + 1 := ⟨f - 1, by omega⟩
  obtain ⟨q1, q2, q3⟩ := plc_range (s := s + 0) hs hk (by omega) (by omega)
  simp only [runP]
  rw [if_pos (show (0 : Int) < 1 by omega), Int.sub_zero, Int.min_eq_right q2, runP_done g (show (1 : Int) ≤ 0 + 1 by omega)]
  rfl
/-- Whether a chunk begins. -/
theorem fresh2 {ch : Int} {L : List Seg} (c0 : 1 ≤ ch) (x : Int) : ((x + 1) % ch = 0) ↔ (plc 2 ch L x).2.2 = 1 := by
  unfold plc
  rw [if_pos rfl]
  show _ ↔ ch - x % ch = 1
  have e3 := Int.emod_nonneg x (show ch ≠ 0 by omega)
  have e4 := Int.emod_lt_of_pos x (show 0 < ch by omega)
  have e5 := Int.mul_ediv_add_emod x ch
  have e6 : (x + 1) % ch = (x % ch + 1) % ch := by
    rw [show x + 1 = (x % ch + 1) + ch * (x / ch) by omega, Int.add_mul_emod_self_left]
  rw [e6]
  by_cases h : x % ch + 1 = ch
  · rw [h, Int.emod_self]; omega
  · rw [Int.emod_eq_of_lt (by omega) (by omega)]; omega
/-- Whether a part begins. -/
theorem fresh1 {kd ch : Int} {L : List Seg} (hs : soundB kd ch L = true) (hk : kd = 1) {x : Int} (x0 : 0 ≤ x) (x1 : x + 1 < sizeV kd L) : ((plc kd ch L x).1 ≠ (plc kd ch L (x + 1)).1) ↔ (plc kd ch L x).2.2 = 1 := by
  have hk3 : kd ≠ 3 := by omega
  obtain ⟨r1, r2, r3⟩ := plc_range (s := x) hs hk3 (by omega) (by omega)
  by_cases h : (plc kd ch L x).2.2 = 1
  · refine ⟨fun _ => h, fun _ he => ?_⟩
    obtain ⟨h1, h4, ha, _, _, hz⟩ := sound_parts hs
    have hpos : ∀ y ∈ L, 1 ≤ y.2.2 := fun y hy => by obtain ⟨_, _, _, _, a, _⟩ := seg_t (List.all_eq_true.1 ha y hy); exact a
    rw [show sizeV kd L = sumK L L.length from by unfold sizeV; rw [if_neg hk3]] at x1
    subst hk
    obtain ⟨j, hj, hl, l0, l1⟩ := linP_drop L x 0 x0 (by omega) hpos
    obtain ⟨j', hj', hl', l0', l1'⟩ := linP_drop L (x + 1) 0 (by omega) x1 hpos
    unfold plc at h he
    simp only [if_neg (show ¬ (1 : Int) = 2 by omega)] at h he
    rw [hl] at h he
    rw [hl'] at he
    simp only [Nat.zero_add] at h he
    subst he
    omega
  · have := plc_shift (s := x) (k := 1) hs hk3 x0 (by omega) (by omega) (by omega)
    refine ⟨fun hne => absurd (by rw [this]) hne, fun h' => absurd h' h⟩
theorem pcs_set : ∀ (l : List Pc) (d a n o m : Int), (pcs (l ++ [(d, a, n, o)])).set (l.length * 4 + 2) (.int .i64 m) = pcs (l ++ [(d, a, m, o)])
  | [], _, _, _, _, _ => rfl
  | (x, y, z, t) :: l, d, a, n, o, m => by
    have := pcs_set l d a n o m
    simp only [List.cons_append, pcs, List.length_cons]
    rw [show (l.length + 1) * 4 + 2 = (l.length * 4 + 2) + 1 + 1 + 1 + 1 by omega]
    simp only [List.set_cons_succ, this]

/-- Whether a new piece begins. -/
def frB (kd ch : Int) (L : List Seg) (s : Int) (i : Nat) : Bool := decide (i = 0 ∨ (plc kd ch L (s + ((i : Int) - 1))).2.2 = 1)
theorem runP_step {kd ch : Int} {L : List Seg} {s : Int} {i f : Nat} (hs : soundB kd ch L = true) (hk : kd ≠ 3) (s0 : 0 ≤ s) (s1 : s + (i : Int) < sizeV kd L) (hf : i + 1 ≤ f) :
    (frB kd ch L s i = true → runP kd ch L s ((i : Int) + 1) f 0 = runP kd ch L s i f 0 ++ [onePc kd ch L s i]) ∧
    (frB kd ch L s i = false → ∃ pre d a n o, runP kd ch L s i f 0 = pre ++ [(d, a, n, o)] ∧ 1 ≤ n ∧ n ≤ 128 ∧ runP kd ch L s ((i : Int) + 1) f 0 = pre ++ [(d, a, n + 1, o)]) := by
  unfold frB
  by_cases h0 : i = 0
  · subst h0
    refine ⟨fun _ => ?_, fun h => by simp at h⟩
    have := runP_first hs hk s0 (by omega) f (by omega)
    rw [show (((0 : Nat) : Int) + 1) = 1 by omega, this, runP_done f (show ((0 : Nat) : Int) ≤ 0 by omega)]
    rfl
  · obtain ⟨pre, d, a, n, o, e1, n0, n1, e2⟩ := runP_grow (i := (i : Int)) hs hk s0 s1 f 0 (by omega) (by omega) (by omega)
    refine ⟨fun h => ?_, fun h => ⟨pre, d, a, n, o, e1, n0, n1, ?_⟩⟩
    · have h' : (plc kd ch L (s + ((i : Int) - 1))).2.2 = 1 := by simpa [h0] using h
      rw [e2, if_pos h', e1]
    · have h' : ¬ (plc kd ch L (s + ((i : Int) - 1))).2.2 = 1 := by simpa [h0] using h
      rw [e2, if_neg h']

end Go.Proofs.Ytdeggdbaeeamiaa
