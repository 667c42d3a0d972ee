/-
  The functions of packages workingset and pagecacheref09, by contracts: both packages compute the same numbers, at all arguments.
-/
import Derived.Test.YtjpfijkcicckkaaTape
namespace Go.Proofs.Ytjpfijkcicckkaa
open Go.RowKit
set_option linter.unusedVariables false

def shA (c : Int) : Int := if 0 ≤ c ∧ c ≤ 1000000 then -(c + 1) else 0
def shE (c : Int) : Int := if 0 ≤ c ∧ c ≤ 1000000 then 0 else 2
def stA (s : Int) : Int := if s < 0 ∧ -1000001 ≤ s then -s - 1 else 0
def stB (s : Int) : Bool := decide (s < 0 ∧ -1000001 ≤ s)
def diA (c s : Int) : Int := if (0 ≤ c ∧ c ≤ 1000000) ∧ (stB s = true ∧ stA s < c) then c - stA s else 0
def diE (c s : Int) : Int := if 0 ≤ c ∧ c ≤ 1000000 then (if stB s = true ∧ stA s < c then 0 else 1) else 2
def acB (c s a : Int) : Bool := diE c s == 0 && decide (diA c s ≤ a)

theorem ret_two {k l : IntKind} {a b c d : Int} (h : a = b) (h' : c = d) : Ending.returned (.tuple #[.int k a, .int l c]) = .returned (.tuple #[.int k b, .int l d]) := by rw [h, h']
theorem ret_ib {k : IntKind} {a b : Int} {c d : Bool} (h : a = b) (h' : c = d) : Ending.returned (.tuple #[.int k a, .bool c]) = .returned (.tuple #[.int k b, .bool d]) := by rw [h, h']

theorem tick_w (c : Int) (w : World) :
    Calls Try.prog 17 #[.int .i64 c] w fun e w' => e = .returned (.bool (decide (0 ≤ c ∧ c ≤ 1000000))) ∧ w = w' := by
  go_enter Try.func17, Try.ntmps17
  go_wp2
  all_goals go_ret
  all_goals exact ⟨ret_bool (by simp; try omega), rfl⟩

def TwoI (a b : Int) (w : World) (e : Ending) (w' : World) : Prop := e = .returned (.tuple #[.int .i64 a, .int .i64 b]) ∧ w = w'
def IntB (a : Int) (b : Bool) (w : World) (e : Ending) (w' : World) : Prop := e = .returned (.tuple #[.int .i64 a, .bool b]) ∧ w = w'
def OneB (b : Bool) (w : World) (e : Ending) (w' : World) : Prop := e = .returned (.bool b) ∧ w = w'

theorem clock_w (s : Int) (w : World) : Calls Try.prog 18 #[.int .i64 s] w (IntB (stA s) (stB s) w) := by
  by_cases h : s < 0 ∧ -1000001 ≤ s
  · obtain ⟨h1, h2⟩ := h
    go_enter Try.func18, Try.ntmps18
    go_wp2
    go_ret2
    exact ⟨ret_ib (by simp [stA, h1, h2]) (by simp [stB, h1, h2]), rfl⟩
  · go_enter Try.func18, Try.ntmps18
    go_wp2
    all_goals go_ret2
    all_goals exact ⟨ret_ib (by simp [stA, h]) (by simp [stB, h]), rfl⟩

theorem stamp_w (s : Int) (w : World) : Calls Try.prog 9 #[.int .i64 s] w (IntB (stA s) (stB s) w) := by
  go_enter Try.func9, Try.ntmps9
  go_wp2_with (go_at_call 18; refine (clock_w _ _).mono ?_; rintro e w' ⟨rfl, rfl⟩)
  go_ret2
  exact ⟨rfl, rfl⟩

theorem rstamp_w (s : Int) (w : World) : Calls Try.prog 10 #[.int .i64 s] w (IntB (stA s) (stB s) w) := by
  by_cases h : s < 0 ∧ -1000001 ≤ s
  · obtain ⟨h1, h2⟩ := h
    go_enter Try.func10, Try.ntmps10
    go_wp2
    go_ret2
    exact ⟨ret_ib (by simp [stA, h1, h2]) (by simp [stB, h1, h2]), rfl⟩
  · go_enter Try.func10, Try.ntmps10
    go_wp2
    all_goals go_ret2
    all_goals exact ⟨ret_ib (by simp [stA, h]) (by simp [stB, h]), rfl⟩

theorem shadow_w (c : Int) (w : World) : Calls Try.prog 7 #[.int .i64 c] w (TwoI (shA c) (shE c) w) := by
  by_cases h : 0 ≤ c ∧ c ≤ 1000000
  · obtain ⟨h1, h2⟩ := h
    go_enter Try.func7, Try.ntmps7
    go_wp2_with (go_at_call 17; refine (tick_w _ _).mono ?_; rintro e w' ⟨rfl, rfl⟩)
    go_ret2
    exact ⟨ret_two (by simp [shA, h1, h2]) (by simp [shE, h1, h2]), rfl⟩
  · have hd : decide (0 ≤ c ∧ c ≤ 1000000) = false := by simpa using h
    have H := Lib.hid h
    clear h
    go_enter Try.func7, Try.ntmps7
    go_wp2_with (go_at_call 17; refine (tick_w _ _).mono ?_; rintro e w' ⟨rfl, rfl⟩)
    all_goals go_ret2
    all_goals exact ⟨ret_two (by simp [shA, H.out]) (by simp [shE, H.out]), rfl⟩

theorem rshadow_w (c : Int) (w : World) : Calls Try.prog 8 #[.int .i64 c] w (TwoI (shA c) (shE c) w) := by
  by_cases h : 0 ≤ c ∧ c ≤ 1000000
  · obtain ⟨h1, h2⟩ := h
    go_enter Try.func8, Try.ntmps8
    go_wp2
    go_ret2
    exact ⟨ret_two (by simp [shA, h1, h2]) (by simp [shE, h1, h2]), rfl⟩
  · go_enter Try.func8, Try.ntmps8
    go_wp2
    all_goals go_ret2
    all_goals exact ⟨ret_two (by simp [shA, h]) (by simp [shE, h]), rfl⟩

theorem distance_w (c s : Int) (w : World) : Calls Try.prog 11 #[.int .i64 c, .int .i64 s] w (TwoI (diA c s) (diE c s) w) := by
  by_cases h : 0 ≤ c ∧ c ≤ 1000000
  · have hs : 0 ≤ stA s ∧ stA s ≤ 1000000 := by unfold stA; split <;> omega
    obtain ⟨h1, h2⟩ := h
    obtain ⟨h3, h4⟩ := hs
    by_cases hb : stB s = true
    · by_cases hl : stA s < c
      · go_enter Try.func11, Try.ntmps11
        go_wp2_with (first | (go_at_call 17; refine (tick_w _ _).mono ?_; rintro e w' ⟨rfl, rfl⟩) | (go_at_call 9; refine (stamp_w _ _).mono ?_; rintro e w' ⟨rfl, rfl⟩))
        all_goals go_ret2
        all_goals exact ⟨ret_two (by simp [diA, h1, h2, hb, hl]) (by simp [diE, h1, h2, hb, hl]), rfl⟩
      · go_enter Try.func11, Try.ntmps11
        go_wp2_with (first | (go_at_call 17; refine (tick_w _ _).mono ?_; rintro e w' ⟨rfl, rfl⟩) | (go_at_call 9; refine (stamp_w _ _).mono ?_; rintro e w' ⟨rfl, rfl⟩))
        all_goals go_ret2
        all_goals exact ⟨ret_two (by simp [diA, h1, h2, hb]; omega) (by simp [diE, h1, h2, hb]; omega), rfl⟩
    · simp only [Bool.not_eq_true] at hb
      go_enter Try.func11, Try.ntmps11
      go_wp2_with (first | (go_at_call 17; refine (tick_w _ _).mono ?_; rintro e w' ⟨rfl, rfl⟩) | (go_at_call 9; refine (stamp_w _ _).mono ?_; rintro e w' ⟨rfl, rfl⟩))
      all_goals go_ret2
      all_goals exact ⟨ret_two (by simp [diA, hb]) (by simp [diE, h1, h2, hb]), rfl⟩
  · have hd : decide (0 ≤ c ∧ c ≤ 1000000) = false := by simpa using h
    go_enter Try.func11, Try.ntmps11
    go_wp2_with (first | (go_at_call 17; refine (tick_w _ _).mono ?_; rintro e w' ⟨rfl, rfl⟩) | (go_at_call 9; refine (stamp_w _ _).mono ?_; rintro e w' ⟨rfl, rfl⟩))
    all_goals go_ret2
    all_goals exact ⟨ret_two (by simp [diA, h]) (by simp [diE, h]), rfl⟩

theorem rdistance_w (c s : Int) (w : World) : Calls Try.prog 12 #[.int .i64 c, .int .i64 s] w (TwoI (diA c s) (diE c s) w) := by
  by_cases h : 0 ≤ c ∧ c ≤ 1000000
  · have hs : 0 ≤ stA s ∧ stA s ≤ 1000000 := by unfold stA; split <;> omega
    obtain ⟨h1, h2⟩ := h
    obtain ⟨h3, h4⟩ := hs
    by_cases hb : stB s = true
    · by_cases hl : stA s < c
      · go_enter Try.func12, Try.ntmps12
        go_wp2_with (go_at_call 10; refine (rstamp_w _ _).mono ?_; rintro e w' ⟨rfl, rfl⟩)
        all_goals go_ret2
        all_goals exact ⟨ret_two (by simp [diA, h1, h2, hb, hl]) (by simp [diE, h1, h2, hb, hl]), rfl⟩
      · go_enter Try.func12, Try.ntmps12
        go_wp2_with (go_at_call 10; refine (rstamp_w _ _).mono ?_; rintro e w' ⟨rfl, rfl⟩)
        all_goals go_ret2
        all_goals exact ⟨ret_two (by simp [diA, h1, h2, hb]; omega) (by simp [diE, h1, h2, hb]; omega), rfl⟩
    · simp only [Bool.not_eq_true] at hb
      go_enter Try.func12, Try.ntmps12
      go_wp2_with (go_at_call 10; refine (rstamp_w _ _).mono ?_; rintro e w' ⟨rfl, rfl⟩)
      all_goals go_ret2
      all_goals exact ⟨ret_two (by simp [diA, hb]) (by simp [diE, h1, h2, hb]), rfl⟩
  · have hd : decide (0 ≤ c ∧ c ≤ 1000000) = false := by simpa using h
    go_enter Try.func12, Try.ntmps12
    go_wp2_with (go_at_call 10; refine (rstamp_w _ _).mono ?_; rintro e w' ⟨rfl, rfl⟩)
    all_goals go_ret2
    all_goals exact ⟨ret_two (by simp [diA, h]) (by simp [diE, h]), rfl⟩

theorem activate_w (c s a : Int) (w : World) : Calls Try.prog 13 #[.int .i64 c, .int .i64 s, .int .i64 a] w (OneB (acB c s a) w) := by
  go_enter Try.func13, Try.ntmps13
  go_wp2_with (go_at_call 11; refine (distance_w _ _ _).mono ?_; rintro e w' ⟨rfl, rfl⟩)
  all_goals go_ret
  all_goals exact ⟨ret_bool (by simp_all [acB]), rfl⟩

theorem ractivate_w (c s a : Int) (w : World) : Calls Try.prog 14 #[.int .i64 c, .int .i64 s, .int .i64 a] w (OneB (acB c s a) w) := by
  go_enter Try.func14, Try.ntmps14
  go_wp2_with (go_at_call 12; refine (rdistance_w _ _ _).mono ?_; rintro e w' ⟨rfl, rfl⟩)
  all_goals go_ret
  all_goals exact ⟨ret_bool (by simp_all [acB]), rfl⟩

theorem awake_w (w : World) : Calls Try.prog 15 #[] w (OneB true w) := by
  have a1 : shA 4 = -5 := by decide
  have a2 : shE 4 = 0 := by decide
  have a3 : stA (-5) = 4 := by decide
  have a4 : stB (-5) = true := by decide
  have a5 : diA 7 (-5) = 3 := by decide
  have a6 : diE 7 (-5) = 0 := by decide
  have a7 : stB 3 = false := by decide
  have a8 : acB 7 (-5) 3 = true := by decide
  have a9 : acB 7 (-5) 2 = false := by decide
  go_enter Try.func15, Try.ntmps15
  go_wp2_with (first | (go_at_call 7; refine (shadow_w _ _).mono ?_; rintro e w' ⟨rfl, rfl⟩) | (go_at_call 8; refine (rshadow_w _ _).mono ?_; rintro e w' ⟨rfl, rfl⟩) | (go_at_call 9; refine (stamp_w _ _).mono ?_; rintro e w' ⟨rfl, rfl⟩) | (go_at_call 10; refine (rstamp_w _ _).mono ?_; rintro e w' ⟨rfl, rfl⟩) | (go_at_call 11; refine (distance_w _ _ _).mono ?_; rintro e w' ⟨rfl, rfl⟩) | (go_at_call 12; refine (rdistance_w _ _ _).mono ?_; rintro e w' ⟨rfl, rfl⟩) | (go_at_call 13; refine (activate_w _ _ _ _).mono ?_; rintro e w' ⟨rfl, rfl⟩) | (go_at_call 14; refine (ractivate_w _ _ _ _).mono ?_; rintro e w' ⟨rfl, rfl⟩))
  go_ret
  exact ⟨rfl, rfl⟩

set_option maxRecDepth 100000 in
theorem workingsetCalls_walk (a0 : Option Addr) (len0 cap0 : Nat) (z0 : List Int) (w : World) (w0 : IsRow .i64 w a0 len0 cap0 z0) :
    Calls Try.prog 3 #[.slice a0 len0 cap0] w fun e w' => e = .returned (.bool true) ∧ Below w.heap.size w w' := by
  have hT0 := Tp.start w0
  clear w0
  go_enter Try.func3, Try.ntmps3
  go_wp2_with fail
  go_loopw [4] (fun k wr => ∃ n : Nat, n ≤ 6 ∧ k = .int .i64 n ∧ Tp w w.heap.size wr) (fun k _ => 6 - (intOf k).toNat)
  case atStart => exact ⟨0, by omega, rfl, hT0⟩
  case round =>
    obtain ⟨n, hn, rfl, hT⟩ := hrel
    clear hT0
    by_cases hl : n < 6
    · go_wp2_with (first | (go_at_call 5; refine (next_t _ _ _ _ (by omega) (by omega) (by assumption)).mono ?_; rintro e w' ⟨x, rfl, h0, h1, hT, hg⟩; clear hg) | (go_at_call 6; refine (odd_t _ _ _ (by assumption)).mono ?_; rintro e w' ⟨x, rfl, h0, h1, hT, hg⟩; clear hg) | (go_at_call 7; refine (shadow_w _ _).mono ?_; rintro e w' ⟨rfl, rfl⟩) | (go_at_call 8; refine (rshadow_w _ _).mono ?_; rintro e w' ⟨rfl, rfl⟩) | (go_at_call 9; refine (stamp_w _ _).mono ?_; rintro e w' ⟨rfl, rfl⟩) | (go_at_call 10; refine (rstamp_w _ _).mono ?_; rintro e w' ⟨rfl, rfl⟩) | (go_at_call 11; refine (distance_w _ _ _).mono ?_; rintro e w' ⟨rfl, rfl⟩) | (go_at_call 12; refine (rdistance_w _ _ _).mono ?_; rintro e w' ⟨rfl, rfl⟩) | (go_at_call 13; refine (activate_w _ _ _ _).mono ?_; rintro e w' ⟨rfl, rfl⟩) | (go_at_call 14; refine (ractivate_w _ _ _ _).mono ?_; rintro e w' ⟨rfl, rfl⟩) | (go_at_call 15; refine (awake_w _).mono ?_; rintro e w' ⟨rfl, rfl⟩))
      all_goals go_roundw
      all_goals first
        | (case rel => exact ⟨n + 1, by omega, by go_num, by assumption⟩)
        | (case measure => simp [intOf]; omega)
    · go_wp2_with (first | (go_at_call 5; refine (next_t _ _ _ _ (by omega) (by omega) (by assumption)).mono ?_; rintro e w' ⟨x, rfl, h0, h1, hT, hg⟩; clear hg) | (go_at_call 6; refine (odd_t _ _ _ (by assumption)).mono ?_; rintro e w' ⟨x, rfl, h0, h1, hT, hg⟩; clear hg) | (go_at_call 7; refine (shadow_w _ _).mono ?_; rintro e w' ⟨rfl, rfl⟩) | (go_at_call 8; refine (rshadow_w _ _).mono ?_; rintro e w' ⟨rfl, rfl⟩) | (go_at_call 9; refine (stamp_w _ _).mono ?_; rintro e w' ⟨rfl, rfl⟩) | (go_at_call 10; refine (rstamp_w _ _).mono ?_; rintro e w' ⟨rfl, rfl⟩) | (go_at_call 11; refine (distance_w _ _ _).mono ?_; rintro e w' ⟨rfl, rfl⟩) | (go_at_call 12; refine (rdistance_w _ _ _).mono ?_; rintro e w' ⟨rfl, rfl⟩) | (go_at_call 13; refine (activate_w _ _ _ _).mono ?_; rintro e w' ⟨rfl, rfl⟩) | (go_at_call 14; refine (ractivate_w _ _ _ _).mono ?_; rintro e w' ⟨rfl, rfl⟩) | (go_at_call 15; refine (awake_w _).mono ?_; rintro e w' ⟨rfl, rfl⟩))
      go_ret
      exact ⟨rfl, Tp.below (by assumption)⟩

theorem workingsetLonger_walk (s a c : Int) (w : World) :
    Calls Try.prog 4 #[.int .i64 s, .int .i64 a, .int .i64 c] w fun e w' => e = .returned (.bool true) ∧ Below w.heap.size w w' := by
  have ⟨n1, n2⟩ := cutI_range s 12 (by omega)
  have ⟨k1, k2⟩ := cutI_range a 20 (by omega)
  have a1 : shA 0 = -1 := by decide
  have a2 : shE 0 = 0 := by decide
  go_enter Try.func4, Try.ntmps4
  go_wp2_with (first | (go_at_call 16; refine (cut_w _ _ _ (by omega) (by omega)).mono ?_; rintro e w' ⟨rfl, rfl⟩) | (go_at_call 7; refine (shadow_w _ _).mono ?_; rintro e w' ⟨rfl, rfl⟩) | (go_at_call 8; refine (rshadow_w _ _).mono ?_; rintro e w' ⟨rfl, rfl⟩) | (go_at_call 9; refine (stamp_w _ _).mono ?_; rintro e w' ⟨rfl, rfl⟩) | (go_at_call 10; refine (rstamp_w _ _).mono ?_; rintro e w' ⟨rfl, rfl⟩) | (go_at_call 11; refine (distance_w _ _ _).mono ?_; rintro e w' ⟨rfl, rfl⟩) | (go_at_call 12; refine (rdistance_w _ _ _).mono ?_; rintro e w' ⟨rfl, rfl⟩) | (go_at_call 13; refine (activate_w _ _ _ _).mono ?_; rintro e w' ⟨rfl, rfl⟩) | (go_at_call 14; refine (ractivate_w _ _ _ _).mono ?_; rintro e w' ⟨rfl, rfl⟩) | (go_at_call 15; refine (awake_w _).mono ?_; rintro e w' ⟨rfl, rfl⟩))
  go_loopw [11, 12] (fun k p wr => ∃ n : Nat, (n : Int) ≤ 1 + cutI a 20 ∧ k = .int .i64 n ∧ p = .int .i64 (1 + cutI s 12 + n) ∧ w = wr) (fun k _ _ => (1 + cutI a 20 - intOf k).toNat)
  case atStart => exact ⟨0, by omega, rfl, by simp, rfl⟩
  case round =>
    obtain ⟨n, hn, rfl, rfl, rfl⟩ := hrel
    by_cases hl : (n : Int) < 1 + cutI a 20
    · go_wp2_with (first | (go_at_call 16; refine (cut_w _ _ _ (by omega) (by omega)).mono ?_; rintro e w' ⟨rfl, rfl⟩) | (go_at_call 7; refine (shadow_w _ _).mono ?_; rintro e w' ⟨rfl, rfl⟩) | (go_at_call 8; refine (rshadow_w _ _).mono ?_; rintro e w' ⟨rfl, rfl⟩) | (go_at_call 9; refine (stamp_w _ _).mono ?_; rintro e w' ⟨rfl, rfl⟩) | (go_at_call 10; refine (rstamp_w _ _).mono ?_; rintro e w' ⟨rfl, rfl⟩) | (go_at_call 11; refine (distance_w _ _ _).mono ?_; rintro e w' ⟨rfl, rfl⟩) | (go_at_call 12; refine (rdistance_w _ _ _).mono ?_; rintro e w' ⟨rfl, rfl⟩) | (go_at_call 13; refine (activate_w _ _ _ _).mono ?_; rintro e w' ⟨rfl, rfl⟩) | (go_at_call 14; refine (ractivate_w _ _ _ _).mono ?_; rintro e w' ⟨rfl, rfl⟩) | (go_at_call 15; refine (awake_w _).mono ?_; rintro e w' ⟨rfl, rfl⟩))
      go_roundw
      case rel => exact ⟨n + 1, by omega, by go_num, by go_num, trivial⟩
      case measure => simp [intOf]; omega
    · have hd : stB (-1) = true := by decide
      have he : stA (-1) = 0 := by decide
      have d1 : diA n (-1) = n := by simp [diA, hd, he]; omega
      have d2 : diE n (-1) = 0 := by simp [diE, hd, he]; omega
      have d3 : ∀ x, acB n (-1) x = decide ((n : Int) ≤ x) := by intro x; simp [acB, d1, d2]
      clear hd he
      go_wp2_with (first | (go_at_call 16; refine (cut_w _ _ _ (by omega) (by omega)).mono ?_; rintro e w' ⟨rfl, rfl⟩) | (go_at_call 7; refine (shadow_w _ _).mono ?_; rintro e w' ⟨rfl, rfl⟩) | (go_at_call 8; refine (rshadow_w _ _).mono ?_; rintro e w' ⟨rfl, rfl⟩) | (go_at_call 9; refine (stamp_w _ _).mono ?_; rintro e w' ⟨rfl, rfl⟩) | (go_at_call 10; refine (rstamp_w _ _).mono ?_; rintro e w' ⟨rfl, rfl⟩) | (go_at_call 11; refine (distance_w _ _ _).mono ?_; rintro e w' ⟨rfl, rfl⟩) | (go_at_call 12; refine (rdistance_w _ _ _).mono ?_; rintro e w' ⟨rfl, rfl⟩) | (go_at_call 13; refine (activate_w _ _ _ _).mono ?_; rintro e w' ⟨rfl, rfl⟩) | (go_at_call 14; refine (ractivate_w _ _ _ _).mono ?_; rintro e w' ⟨rfl, rfl⟩) | (go_at_call 15; refine (awake_w _).mono ?_; rintro e w' ⟨rfl, rfl⟩))
      all_goals go_ret
      all_goals exact ⟨rfl, Below.refl _ _⟩

end Go.Proofs.Ytjpfijkcicckkaa
