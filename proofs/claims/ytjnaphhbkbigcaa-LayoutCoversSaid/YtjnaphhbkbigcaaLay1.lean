/-
  Where inode sectors and pages are: in plain Lean, and the small functions of package layout and of the reference by contracts.
-/
import Derived.Test.YtjnaphhbkbigcaaInts
namespace Go.Proofs.Ytjnaphhbkbigcaa
open Go.RowKit
set_option linter.unusedVariables false
set_option linter.unusedSimpArgs false

def slotsP (x : Int) : Int := if x < 0 ∨ 128 < x then 0 else x / 18
def inoP (s w : Int) : Int := if 0 ≤ s ∧ s < 7 ∧ 0 ≤ w ∧ w < 2 then s * 18 + w else -1
def pgP (s p : Int) : Int := if 0 ≤ s ∧ s < 7 ∧ 0 ≤ p ∧ p < 8 then s * 18 + 2 + p * 2 else -1
def ownA (n : Int) : Int := if n < 0 ∨ 126 ≤ n then -1 else n / 18
def ownB (n : Int) : Int := if n < 0 ∨ 126 ≤ n then 0 else if n % 18 < 2 then -1 - n % 18 else (n % 18 - 2) / 2
/-- A value comes back; the world is as it was. -/
def RetE (v : Value) (w : World) (e : Ending) (w' : World) : Prop := e = .returned v ∧ w = w'

theorem tdiv_pos {x n : Int} (h : 0 ≤ x) : x.tdiv n = x / n := Int.tdiv_eq_ediv_of_nonneg h
theorem tmod_pos {x n : Int} (h : 0 ≤ x) : x.tmod n = x % n := Int.tmod_eq_emod_of_nonneg h
theorem slots_w (x : Int) (w : World) : Calls Try.prog 11 #[.int .i64 x] w (RetE (.int .i64 (slotsP x)) w) := by
  by_cases h0 : x < 0
  · go_enter Try.func11, Try.ntmps11
    go_wp2
    go_ret
    exact ⟨ret_int (by unfold slotsP; rw [if_pos (.inl h0)]), rfl⟩
  · by_cases h1 : 128 < x
    · go_enter Try.func11, Try.ntmps11
      go_wp2
      go_ret
      exact ⟨ret_int (by unfold slotsP; rw [if_pos (.inr h1)]), rfl⟩
    · have e := tdiv_pos (x := x) (n := 18) (by omega)
      have w1 := w64 (x := x / 18) (by omega)
      have HS := Lib.hid (show slotsP x = x / 18 by unfold slotsP; rw [if_neg (by omega)])
      go_enter Try.func11, Try.ntmps11
      go_wp2
      go_ret
      exact ⟨ret_int HS.out.symm, rfl⟩
theorem rSlots_w (x : Int) (w : World) : Calls Try.prog 12 #[.int .i64 x] w (RetE (.int .i64 (slotsP x)) w) := by
  by_cases h0 : x < 0
  · go_enter Try.func12, Try.ntmps12
    go_wp2
    go_ret
    exact ⟨ret_int (by unfold slotsP; rw [if_pos (.inl h0)]), rfl⟩
  · by_cases h1 : 128 < x
    · go_enter Try.func12, Try.ntmps12
      go_wp2
      go_ret
      exact ⟨ret_int (by unfold slotsP; rw [if_pos (.inr h1)]), rfl⟩
    · have e := tdiv_pos (x := x) (n := 18) (by omega)
      have w1 := w64 (x := x / 18) (by omega)
      have HS := Lib.hid (show slotsP x = x / 18 by unfold slotsP; rw [if_neg (by omega)])
      go_enter Try.func12, Try.ntmps12
      go_wp2
      go_ret
      exact ⟨ret_int HS.out.symm, rfl⟩
theorem slots_max : slotsP 128 = 7 := by decide
theorem known_w (s : Int) (w : World) : Calls Try.prog 25 #[.int .i64 s] w (RetE (.bool (decide (0 ≤ s ∧ s < 7))) w) := by
  have hs := fun w => slots_w 128 w
  rw [slots_max] at hs
  by_cases h0 : s < 0
  · have HR := Lib.hid (show (decide (0 ≤ s) && decide (s < 7)) = false by rw [decide_eq_false (by omega)]; rfl)
    go_enter Try.func25, Try.ntmps25
    go_wp2_with (go_at_call 11; (with_reducible refine Calls.mono (hs _) ?_); rintro e w1 ⟨rfl, rfl⟩)
    go_ret
    exact ⟨ret_bool HR.out.symm, rfl⟩
  · have HR := Lib.hid (show decide (0 ≤ s ∧ s < 7) = decide (s < 7) by rw [Bool.eq_iff_iff]; simp; omega)
    go_enter Try.func25, Try.ntmps25
    go_wp2_with (go_at_call 11; (with_reducible refine Calls.mono (hs _) ?_); rintro e w1 ⟨rfl, rfl⟩)
    go_ret
    exact ⟨ret_bool HR.out.symm, rfl⟩
theorem rSlot_w (s : Int) (w : World) : Calls Try.prog 26 #[.int .i64 s] w (RetE (.bool (decide (0 ≤ s ∧ s < 7))) w) := by
  have hs := fun w => rSlots_w 128 w
  rw [slots_max] at hs
  by_cases h0 : s < 0
  · have HR := Lib.hid (show (decide (0 ≤ s) && decide (s < 7)) = false by rw [decide_eq_false (by omega)]; rfl)
    go_enter Try.func26, Try.ntmps26
    go_wp2_with (go_at_call 12; (with_reducible refine Calls.mono (hs _) ?_); rintro e w1 ⟨rfl, rfl⟩)
    go_ret
    exact ⟨ret_bool HR.out.symm, rfl⟩
  · have HR := Lib.hid (show decide (0 ≤ s ∧ s < 7) = decide (s < 7) by rw [Bool.eq_iff_iff]; simp; omega)
    go_enter Try.func26, Try.ntmps26
    go_wp2_with (go_at_call 12; (with_reducible refine Calls.mono (hs _) ?_); rintro e w1 ⟨rfl, rfl⟩)
    go_ret
    exact ⟨ret_bool HR.out.symm, rfl⟩
theorem ino_w (s x : Int) (w : World) : Calls Try.prog 13 #[.int .i64 s, .int .i64 x] w (RetE (.int .i64 (inoP s x)) w) := by
  have hk := fun w => known_w s w
  by_cases h0 : 0 ≤ s ∧ s < 7
  · rw [decide_eq_true h0] at hk
    obtain ⟨s0, s1⟩ := h0
    by_cases x0 : x = 0
    · have HR := Lib.hid (show inoP s x = s * 18 by unfold inoP; rw [if_pos (by omega)]; omega)
      have w1 := w64 (x := s * 18) (by omega)
      subst x0
      go_enter Try.func13, Try.ntmps13
      go_wp2_with (go_at_call 25; (with_reducible refine Calls.mono (hk _) ?_); rintro e w1 ⟨rfl, rfl⟩)
      go_ret
      exact ⟨ret_int HR.out.symm, rfl⟩
    · by_cases x1 : x = 1
      · have HR := Lib.hid (show inoP s x = s * 18 + 1 by unfold inoP; rw [if_pos (by omega)]; omega)
        have w1 := w64 (x := s * 18) (by omega)
        have w2 := w64 (x := s * 18 + 1) (by omega)
        subst x1
        go_enter Try.func13, Try.ntmps13
        go_wp2_with (go_at_call 25; (with_reducible refine Calls.mono (hk _) ?_); rintro e w1 ⟨rfl, rfl⟩)
        go_ret
        exact ⟨ret_int HR.out.symm, rfl⟩
      · have HR := Lib.hid (show inoP s x = -1 by unfold inoP; rw [if_neg (by omega)])
        have e0 : (x != 0) = true := by simp [x0]
        have e1 : (x != 1) = true := by simp [x1]
        by_cases q : x < 0
        · clear x0 x1
          go_enter Try.func13, Try.ntmps13
          go_wp2_with (go_at_call 25; (with_reducible refine Calls.mono (hk _) ?_); rintro e w1 ⟨rfl, rfl⟩)
          go_ret
          exact ⟨ret_int HR.out.symm, rfl⟩
        · have q2 : ¬ x < 2 := by omega
          have q3 : 2 ≤ x := by omega
          clear x0 x1
          go_enter Try.func13, Try.ntmps13
          go_wp2_with (go_at_call 25; (with_reducible refine Calls.mono (hk _) ?_); rintro e w1 ⟨rfl, rfl⟩)
          go_ret
          exact ⟨ret_int HR.out.symm, rfl⟩
  · rw [decide_eq_false h0] at hk
    have HR := Lib.hid (show inoP s x = -1 by unfold inoP; rw [if_neg (by omega)])
    clear h0
    go_enter Try.func13, Try.ntmps13
    go_wp2_with (go_at_call 25; (with_reducible refine Calls.mono (hk _) ?_); rintro e w1 ⟨rfl, rfl⟩)
    go_ret
    exact ⟨ret_int HR.out.symm, rfl⟩
theorem rIno_w (s x : Int) (w : World) : Calls Try.prog 14 #[.int .i64 s, .int .i64 x] w (RetE (.int .i64 (inoP s x)) w) := by
  have hk := fun w => rSlot_w s w
  by_cases h0 : 0 ≤ s ∧ s < 7
  · rw [decide_eq_true h0] at hk
    obtain ⟨s0, s1⟩ := h0
    by_cases x0 : x = 0
    · have HR := Lib.hid (show inoP s x = s * 18 by unfold inoP; rw [if_pos (by omega)]; omega)
      have w1 := w64 (x := s * 18) (by omega)
      subst x0
      go_enter Try.func14, Try.ntmps14
      go_wp2_with (go_at_call 26; (with_reducible refine Calls.mono (hk _) ?_); rintro e w1 ⟨rfl, rfl⟩)
      go_ret
      exact ⟨ret_int HR.out.symm, rfl⟩
    · by_cases x1 : x = 1
      · have HR := Lib.hid (show inoP s x = s * 18 + 1 by unfold inoP; rw [if_pos (by omega)]; omega)
        have w1 := w64 (x := s * 18) (by omega)
        have w2 := w64 (x := s * 18 + 1) (by omega)
        subst x1
        go_enter Try.func14, Try.ntmps14
        go_wp2_with (go_at_call 26; (with_reducible refine Calls.mono (hk _) ?_); rintro e w1 ⟨rfl, rfl⟩)
        go_ret
        exact ⟨ret_int HR.out.symm, rfl⟩
      · have HR := Lib.hid (show inoP s x = -1 by unfold inoP; rw [if_neg (by omega)])
        have e0 : (x != 0) = true := by simp [x0]
        have e1 : (x != 1) = true := by simp [x1]
        by_cases q : x < 0
        · clear x0 x1
          go_enter Try.func14, Try.ntmps14
          go_wp2_with (go_at_call 26; (with_reducible refine Calls.mono (hk _) ?_); rintro e w1 ⟨rfl, rfl⟩)
          go_ret
          exact ⟨ret_int HR.out.symm, rfl⟩
        · have q2 : ¬ x < 2 := by omega
          have q3 : 2 ≤ x := by omega
          clear x0 x1
          go_enter Try.func14, Try.ntmps14
          go_wp2_with (go_at_call 26; (with_reducible refine Calls.mono (hk _) ?_); rintro e w1 ⟨rfl, rfl⟩)
          go_ret
          exact ⟨ret_int HR.out.symm, rfl⟩
  · rw [decide_eq_false h0] at hk
    have HR := Lib.hid (show inoP s x = -1 by unfold inoP; rw [if_neg (by omega)])
    clear h0
    go_enter Try.func14, Try.ntmps14
    go_wp2_with (go_at_call 26; (with_reducible refine Calls.mono (hk _) ?_); rintro e w1 ⟨rfl, rfl⟩)
    go_ret
    exact ⟨ret_int HR.out.symm, rfl⟩
theorem pg_w (s x : Int) (w : World) : Calls Try.prog 15 #[.int .i64 s, .int .i64 x] w (RetE (.int .i64 (pgP s x)) w) := by
  have hk := fun w => known_w s w
  by_cases h0 : 0 ≤ s ∧ s < 7
  · rw [decide_eq_true h0] at hk
    obtain ⟨s0, s1⟩ := h0
    by_cases q : x < 0
    · have HR := Lib.hid (show pgP s x = -1 by unfold pgP; rw [if_neg (by omega)])
      go_enter Try.func15, Try.ntmps15
      go_wp2_with (go_at_call 25; (with_reducible refine Calls.mono (hk _) ?_); rintro e w1 ⟨rfl, rfl⟩)
      go_ret
      exact ⟨ret_int HR.out.symm, rfl⟩
    · by_cases q2 : 8 ≤ x
      · have HR := Lib.hid (show pgP s x = -1 by unfold pgP; rw [if_neg (by omega)])
        go_enter Try.func15, Try.ntmps15
        go_wp2_with (go_at_call 25; (with_reducible refine Calls.mono (hk _) ?_); rintro e w1 ⟨rfl, rfl⟩)
        go_ret
        exact ⟨ret_int HR.out.symm, rfl⟩
      · have HR := Lib.hid (show pgP s x = s * 18 + 2 + x * 2 by unfold pgP; rw [if_pos (by omega)])
        have w1 := w64 (x := s * 18) (by omega)
        have w2 := w64 (x := s * 18 + 2) (by omega)
        have w3 := w64 (x := x * 2) (by omega)
        have w4 := w64 (x := s * 18 + 2 + x * 2) (by omega)
        go_enter Try.func15, Try.ntmps15
        go_wp2_with (go_at_call 25; (with_reducible refine Calls.mono (hk _) ?_); rintro e w1 ⟨rfl, rfl⟩)
        go_ret
        exact ⟨ret_int HR.out.symm, rfl⟩
  · rw [decide_eq_false h0] at hk
    have HR := Lib.hid (show pgP s x = -1 by unfold pgP; rw [if_neg (by omega)])
    clear h0
    go_enter Try.func15, Try.ntmps15
    go_wp2_with (go_at_call 25; (with_reducible refine Calls.mono (hk _) ?_); rintro e w1 ⟨rfl, rfl⟩)
    go_ret
    exact ⟨ret_int HR.out.symm, rfl⟩
theorem rPg_w (s x : Int) (w : World) : Calls Try.prog 16 #[.int .i64 s, .int .i64 x] w (RetE (.int .i64 (pgP s x)) w) := by
  have hk := fun w => rSlot_w s w
  by_cases h0 : 0 ≤ s ∧ s < 7
  · rw [decide_eq_true h0] at hk
    obtain ⟨s0, s1⟩ := h0
    by_cases q : x < 0
    · have HR := Lib.hid (show pgP s x = -1 by unfold pgP; rw [if_neg (by omega)])
      go_enter Try.func16, Try.ntmps16
      go_wp2_with (go_at_call 26; (with_reducible refine Calls.mono (hk _) ?_); rintro e w1 ⟨rfl, rfl⟩)
      go_ret
      exact ⟨ret_int HR.out.symm, rfl⟩
    · by_cases q2 : 8 ≤ x
      · have HR := Lib.hid (show pgP s x = -1 by unfold pgP; rw [if_neg (by omega)])
        go_enter Try.func16, Try.ntmps16
        go_wp2_with (go_at_call 26; (with_reducible refine Calls.mono (hk _) ?_); rintro e w1 ⟨rfl, rfl⟩)
        go_ret
        exact ⟨ret_int HR.out.symm, rfl⟩
      · have HR := Lib.hid (show pgP s x = s * 18 + 2 + x * 2 by unfold pgP; rw [if_pos (by omega)])
        have w1 := w64 (x := s * 18) (by omega)
        have w2 := w64 (x := s * 18 + 2) (by omega)
        have w3 := w64 (x := x * 2) (by omega)
        have w4 := w64 (x := s * 18 + 2 + x * 2) (by omega)
        go_enter Try.func16, Try.ntmps16
        go_wp2_with (go_at_call 26; (with_reducible refine Calls.mono (hk _) ?_); rintro e w1 ⟨rfl, rfl⟩)
        go_ret
        exact ⟨ret_int HR.out.symm, rfl⟩
  · rw [decide_eq_false h0] at hk
    have HR := Lib.hid (show pgP s x = -1 by unfold pgP; rw [if_neg (by omega)])
    clear h0
    go_enter Try.func16, Try.ntmps16
    go_wp2_with (go_at_call 26; (with_reducible refine Calls.mono (hk _) ?_); rintro e w1 ⟨rfl, rfl⟩)
    go_ret
    exact ⟨ret_int HR.out.symm, rfl⟩

theorem owner_w (n : Int) (w : World) (hn : -9223372036854775808 ≤ n ∧ n ≤ 9223372036854775807) : Calls Try.prog 9 #[.int .i64 n] w (RetE (.tuple #[.int .i64 (ownA n), .int .i64 (ownB n)]) w) := by
  by_cases h0 : n < 0
  · have HA := Lib.hid (show ownA n = -1 by unfold ownA; rw [if_pos (.inl h0)])
    have HB := Lib.hid (show ownB n = 0 by unfold ownB; rw [if_pos (.inl h0)])
    go_enter Try.func9, Try.ntmps9
    go_wp2
    go_ret2
    exact ⟨by rw [HA.out, HB.out]; rfl, rfl⟩
  · obtain ⟨q, hq⟩ : ∃ q, n / 18 = q := ⟨_, rfl⟩
    obtain ⟨m, hm⟩ : ∃ m, n % 18 = m := ⟨_, rfl⟩
    have e1 := (tdiv_pos (x := n) (n := 18) (by omega)).trans hq
    have e2 := (tmod_pos (x := n) (n := 18) (by omega)).trans hm
    have w1 : IntKind.i64.wrap q = q := IntWalk.i64_in _ (by omega)
    have w2 := w64 (x := m) (by omega)
    have hk := fun w => known_w q w
    by_cases h1 : 126 ≤ n
    · have HA := Lib.hid (show ownA n = -1 by unfold ownA; rw [if_pos (.inr h1)])
      have HB := Lib.hid (show ownB n = 0 by unfold ownB; rw [if_pos (.inr h1)])
      rw [decide_eq_false (by omega)] at hk
      clear hq hm
      go_enter Try.func9, Try.ntmps9
      go_wp2_with (go_at_call 25; (with_reducible refine Calls.mono (hk _) ?_); rintro e w1 ⟨rfl, rfl⟩)
      go_ret2
      exact ⟨by rw [HA.out, HB.out]; rfl, rfl⟩
    · have HA := Lib.hid (show ownA n = q by unfold ownA; rw [if_neg (by omega), hq])
      rw [decide_eq_true (by omega)] at hk
      by_cases h2 : m < 2
      · have HB := Lib.hid (show ownB n = -1 - m by unfold ownB; rw [if_neg (by omega), hm, if_pos h2])
        have w3 := w64 (x := -1 - m) (by omega)
        have m0 : 0 ≤ m := by omega
        clear hq hm
        go_enter Try.func9, Try.ntmps9
        go_wp2_with (go_at_call 25; (with_reducible refine Calls.mono (hk _) ?_); rintro e w1 ⟨rfl, rfl⟩)
        go_ret2
        exact ⟨by rw [HA.out, HB.out]; rfl, rfl⟩
      · obtain ⟨r, hr⟩ : ∃ r, (m - 2) / 2 = r := ⟨_, rfl⟩
        have HB := Lib.hid (show ownB n = r by unfold ownB; rw [if_neg (by omega), hm, if_neg h2, hr])
        have w3 := w64 (x := m - 2) (by omega)
        have e3 := (tdiv_pos (x := m - 2) (n := 2) (by omega)).trans hr
        have w4 := w64 (x := r) (by omega)
        clear hq hm hr
        go_enter Try.func9, Try.ntmps9
        go_wp2_with (go_at_call 25; (with_reducible refine Calls.mono (hk _) ?_); rintro e w1 ⟨rfl, rfl⟩)
        go_ret2
        exact ⟨by rw [HA.out, HB.out]; rfl, rfl⟩

end Go.Proofs.Ytjnaphhbkbigcaa
