/-
  The functions of packages throttle and pagecacheref14, by contracts: both packages compute the same numbers, at all arguments.
-/
import Derived.Test.YtcbnlcpalhpkiaaTape
namespace Go.Proofs.Ytcbnlcpalhpkiaa
open Go.RowKit

def pgB (n : Int) : Bool := decide (0 ≤ n ∧ n ≤ 64)
def frB (d n : Int) : Bool := pgB d && (pgB n && decide (2 * d ≤ n))
def posI (d n : Int) : Int :=
  if pgB d = false ∨ pgB n = false then 0 else if frB d n = true then 256 else if n ≤ d then 0 else (n - d) * 512 / n
def pauseI (d n r k : Int) : Int :=
  if pgB d = false ∨ pgB n = false ∨ r < 1 ∨ pgB k = false then 64
  else if frB d n = true ∨ k = 0 then 0
  else if posI d n = 0 then 64
  else min ((k * 65536 + min r 1000000 * posI d n - 1) / (min r 1000000 * posI d n)) 64

theorem pg_t {n : Int} (h : pgB n = true) : 0 ≤ n ∧ n ≤ 64 := by simpa [pgB] using h
theorem pg_f {n : Int} (h : pgB n = false) : n < 0 ∨ 64 < n := by simp [pgB] at h; omega
theorem posI_range (d n : Int) : 0 ≤ posI d n ∧ posI d n ≤ 512 := by
  unfold posI
  split
  · omega
  · rename_i h
    simp only [not_or, Bool.not_eq_false] at h
    have h1 := pg_t h.1
    have h2 := pg_t h.2
    split
    · omega
    · split
      · omega
      · constructor
        · exact Int.ediv_nonneg (by omega) (by omega)
        · exact Int.ediv_le_of_le_mul (by omega) (by omega)

theorem pages_w (n : Int) (w : World) :
    Calls Try.prog 16 #[.int .i64 n] w fun e w' => e = .returned (.bool (pgB n)) ∧ w = w' := by
  go_enter Try.func16, Try.ntmps16
  go_wp2
  all_goals go_ret
  all_goals exact ⟨ret_bool (by simp [pgB]; try omega), rfl⟩

theorem frames_w (n : Int) (w : World) :
    Calls Try.prog 17 #[.int .i64 n] w fun e w' => e = .returned (.bool (pgB n)) ∧ w = w' := by
  go_enter Try.func17, Try.ntmps17
  go_wp2
  all_goals go_ret
  all_goals exact ⟨ret_bool (by simp [pgB]; try omega), rfl⟩

theorem free_w (d n : Int) (w : World) :
    Calls Try.prog 8 #[.int .i64 d, .int .i64 n] w fun e w' => e = .returned (.bool (frB d n)) ∧ w = w' := by
  by_cases hd : pgB d = true
  · have ⟨h1, h2⟩ := pg_t hd
    by_cases hn : pgB n = true
    · have ⟨h3, h4⟩ := pg_t hn
      go_enter Try.func8, Try.ntmps8
      go_wp2_with (go_at_call 16; refine (pages_w _ _).mono ?_; rintro e w' ⟨rfl, rfl⟩)
      go_ret
      exact ⟨ret_bool (by simp [frB, hd, hn]), rfl⟩
    · simp only [Bool.not_eq_true] at hn
      go_enter Try.func8, Try.ntmps8
      go_wp2_with (go_at_call 16; refine (pages_w _ _).mono ?_; rintro e w' ⟨rfl, rfl⟩)
      go_ret
      exact ⟨ret_bool (by simp [frB, hd, hn]), rfl⟩
  · simp only [Bool.not_eq_true] at hd
    go_enter Try.func8, Try.ntmps8
    go_wp2_with (go_at_call 16; refine (pages_w _ _).mono ?_; rintro e w' ⟨rfl, rfl⟩)
    go_ret
    exact ⟨ret_bool (by simp [frB, hd]), rfl⟩

theorem rfree_w (d n : Int) (w : World) :
    Calls Try.prog 9 #[.int .i64 d, .int .i64 n] w fun e w' => e = .returned (.bool (frB d n)) ∧ w = w' := by
  by_cases hd : pgB d = true
  · have ⟨h1, h2⟩ := pg_t hd
    by_cases hn : pgB n = true
    · have ⟨h3, h4⟩ := pg_t hn
      go_enter Try.func9, Try.ntmps9
      go_wp2_with (go_at_call 17; refine (frames_w _ _).mono ?_; rintro e w' ⟨rfl, rfl⟩)
      go_ret
      exact ⟨ret_bool (by simp [frB, hd, hn]), rfl⟩
    · simp only [Bool.not_eq_true] at hn
      go_enter Try.func9, Try.ntmps9
      go_wp2_with (go_at_call 17; refine (frames_w _ _).mono ?_; rintro e w' ⟨rfl, rfl⟩)
      go_ret
      exact ⟨ret_bool (by simp [frB, hd, hn]), rfl⟩
  · simp only [Bool.not_eq_true] at hd
    go_enter Try.func9, Try.ntmps9
    go_wp2_with (go_at_call 17; refine (frames_w _ _).mono ?_; rintro e w' ⟨rfl, rfl⟩)
    go_ret
    exact ⟨ret_bool (by simp [frB, hd]), rfl⟩

theorem position_w (d n : Int) (w : World) :
    Calls Try.prog 10 #[.int .i64 d, .int .i64 n] w fun e w' => e = .returned (.int .i64 (posI d n)) ∧ w = w' := by
  by_cases hd : pgB d = true
  · have ⟨h1, h2⟩ := pg_t hd
    by_cases hn : pgB n = true
    · have ⟨h3, h4⟩ := pg_t hn
      by_cases hf : frB d n = true
      · go_enter Try.func10, Try.ntmps10
        go_wp2_with (first | (go_at_call 16; refine (pages_w _ _).mono ?_; rintro e w' ⟨rfl, rfl⟩) | (go_at_call 8; refine (free_w _ _ _).mono ?_; rintro e w' ⟨rfl, rfl⟩))
        go_ret
        exact ⟨ret_int (by simp [posI, hd, hn, hf]), rfl⟩
      · simp only [Bool.not_eq_true] at hf
        by_cases hl : n ≤ d
        · go_enter Try.func10, Try.ntmps10
          go_wp2_with (first | (go_at_call 16; refine (pages_w _ _).mono ?_; rintro e w' ⟨rfl, rfl⟩) | (go_at_call 8; refine (free_w _ _ _).mono ?_; rintro e w' ⟨rfl, rfl⟩))
          go_ret
          exact ⟨ret_int (by simp [posI, hd, hn, hf, hl]), rfl⟩
        · go_enter Try.func10, Try.ntmps10
          go_wp2_with (first | (go_at_call 16; refine (pages_w _ _).mono ?_; rintro e w' ⟨rfl, rfl⟩) | (go_at_call 8; refine (free_w _ _ _).mono ?_; rintro e w' ⟨rfl, rfl⟩))
          go_ret
          exact ⟨ret_int (by simp [posI, hd, hn, hf, Int.mul_assoc]; omega), rfl⟩
    · simp only [Bool.not_eq_true] at hn
      go_enter Try.func10, Try.ntmps10
      go_wp2_with (first | (go_at_call 16; refine (pages_w _ _).mono ?_; rintro e w' ⟨rfl, rfl⟩) | (go_at_call 8; refine (free_w _ _ _).mono ?_; rintro e w' ⟨rfl, rfl⟩))
      go_ret
      exact ⟨ret_int (by simp [posI, hn]), rfl⟩
  · simp only [Bool.not_eq_true] at hd
    go_enter Try.func10, Try.ntmps10
    go_wp2_with (first | (go_at_call 16; refine (pages_w _ _).mono ?_; rintro e w' ⟨rfl, rfl⟩) | (go_at_call 8; refine (free_w _ _ _).mono ?_; rintro e w' ⟨rfl, rfl⟩))
    go_ret
    exact ⟨ret_int (by simp [posI, hd]), rfl⟩

theorem fr_eq {d n : Int} (hd : pgB d = true) (hn : pgB n = true) : frB d n = decide (2 * d ≤ n) := by simp [frB, hd, hn]

theorem rposition_w (d n : Int) (w : World) :
    Calls Try.prog 11 #[.int .i64 d, .int .i64 n] w fun e w' => e = .returned (.int .i64 (posI d n)) ∧ w = w' := by
  by_cases hd : pgB d = true
  · have ⟨h1, h2⟩ := pg_t hd
    by_cases hn : pgB n = true
    · have ⟨h3, h4⟩ := pg_t hn
      have hff := fr_eq hd hn
      by_cases hf : 2 * d ≤ n
      · simp only [hf, decide_true] at hff
        have Hff := Lib.hid hff
        clear hff
        go_enter Try.func11, Try.ntmps11
        go_wp2_with (go_at_call 17; refine (frames_w _ _).mono ?_; rintro e w' ⟨rfl, rfl⟩)
        go_ret
        exact ⟨ret_int (by simp [posI, hd, hn, Hff.out]), rfl⟩
      · simp only [hf, decide_false] at hff
        have Hff := Lib.hid hff
        clear hff
        by_cases hl : n ≤ d
        · go_enter Try.func11, Try.ntmps11
          go_wp2_with (go_at_call 17; refine (frames_w _ _).mono ?_; rintro e w' ⟨rfl, rfl⟩)
          go_ret
          exact ⟨ret_int (by simp [posI, hd, hn, Hff.out, hl]), rfl⟩
        · go_enter Try.func11, Try.ntmps11
          go_wp2_with (go_at_call 17; refine (frames_w _ _).mono ?_; rintro e w' ⟨rfl, rfl⟩)
          go_ret
          exact ⟨ret_int (by simp [posI, hd, hn, Hff.out]; omega), rfl⟩
    · simp only [Bool.not_eq_true] at hn
      go_enter Try.func11, Try.ntmps11
      go_wp2_with (go_at_call 17; refine (frames_w _ _).mono ?_; rintro e w' ⟨rfl, rfl⟩)
      go_ret
      exact ⟨ret_int (by simp [posI, hn]), rfl⟩
  · simp only [Bool.not_eq_true] at hd
    go_enter Try.func11, Try.ntmps11
    go_wp2_with (go_at_call 17; refine (frames_w _ _).mono ?_; rintro e w' ⟨rfl, rfl⟩)
    go_ret
    exact ⟨ret_int (by simp [posI, hd]), rfl⟩

theorem ceil_w (a b : Int) (w : World) (h1 : 0 ≤ a) (h2 : a ≤ 4503599627370496) (h3 : 1 ≤ b) (h4 : b ≤ 4503599627370496) :
    Calls Try.prog 18 #[.int .i64 a, .int .i64 b] w fun e w' => e = .returned (.int .i64 ((a + b - 1) / b)) ∧ w = w' := by
  go_enter Try.func18, Try.ntmps18
  go_wp2
  go_ret
  exact ⟨rfl, rfl⟩

theorem mul_bd {a b : Int} (A B : Int) (h1 : 0 ≤ a) (h2 : a ≤ A) (h3 : 0 ≤ b) (h4 : b ≤ B) : 0 ≤ a * b ∧ a * b ≤ A * B :=
  ⟨Int.mul_nonneg h1 h3, Int.mul_le_mul h2 h4 h3 (by omega)⟩

/-- The divisor of a pause: a rate in proportion. -/
def rateI (d n r : Int) : Int := min r 1000000 * posI d n
theorem rateI_range {d n r : Int} (hr : 1 ≤ r) (hp : posI d n ≠ 0) : 1 ≤ rateI d n r ∧ rateI d n r ≤ 512000000 := by
  have ⟨h7, h8⟩ := posI_range d n
  have := mul_bd 1000000 512 (a := min r 1000000) (b := posI d n) (by omega) (by omega) h7 h8
  have h : 0 < min r 1000000 * posI d n := Int.mul_pos (by omega) (by omega)
  unfold rateI
  omega

theorem pause_main (d n r k : Int) (w : World) (hd : pgB d = true) (hn : pgB n = true) (hr : 1 ≤ r) (hk : pgB k = true) (hf : frB d n = false) (hk0 : (k == 0) = false) (hp : (posI d n == 0) = false) :
    Calls Try.prog 12 #[.int .i64 d, .int .i64 n, .int .i64 r, .int .i64 k] w fun e w' => e = .returned (.int .i64 (pauseI d n r k)) ∧ w = w' := by
  have ⟨h1, h2⟩ := pg_t hd
  have ⟨h3, h4⟩ := pg_t hn
  have ⟨h5, h6⟩ := pg_t hk
  have ⟨h7, h8⟩ := posI_range d n
  have ⟨h9, h10⟩ := rateI_range (d := d) (n := n) (r := r) hr (by simpa using hp)
  have Hfin : Hid (pauseI d n r k = min ((k * 256 * 256 + rateI d n r - 1) / rateI d n r) 64) := by
    show pauseI d n r k = _
    have hp' : posI d n ≠ 0 := by simpa using hp
    have hk' : k ≠ 0 := by simpa using hk0
    simp only [pauseI, hd, hn, hk, hf, hp', hk', rateI]
    simp [Int.mul_assoc]
    omega
  have Hr : Hid (rateI d n r = min r 1000000 * posI d n) := rfl
  go_enter Try.func12, Try.ntmps12
  go_wp2_with (first | (go_at_call 16; refine (pages_w _ _).mono ?_; rintro e w' ⟨rfl, rfl⟩) | (go_at_call 8; refine (free_w _ _ _).mono ?_; rintro e w' ⟨rfl, rfl⟩) | (go_at_call 10; refine (position_w _ _ _).mono ?_; rintro e w' ⟨rfl, rfl⟩))
  · have h : 1000000 < r := by assumption
    rw [show 1000000 * posI d n = rateI d n r from by rw [Hr.out, Int.min_eq_right (by omega)], IntWalk.wrap64_in _ (by omega)]
    refine (ceil_w _ _ _ (by omega) (by omega) (by omega) (by omega)).mono ?_
    rintro e w' ⟨rfl, rfl⟩
    go_wp2
    · go_ret
      exact ⟨ret_int (by rw [Hfin.out]; omega), rfl⟩
    · go_ret
      exact ⟨ret_int (by rw [Hfin.out]; omega), rfl⟩
  · have h : r ≤ 1000000 := by assumption
    rw [show r * posI d n = rateI d n r from by rw [Hr.out, Int.min_eq_left h], IntWalk.wrap64_in _ (by omega)]
    refine (ceil_w _ _ _ (by omega) (by omega) (by omega) (by omega)).mono ?_
    rintro e w' ⟨rfl, rfl⟩
    go_wp2
    · go_ret
      exact ⟨ret_int (by rw [Hfin.out]; omega), rfl⟩
    · go_ret
      exact ⟨ret_int (by rw [Hfin.out]; omega), rfl⟩

theorem pause_w (d n r k : Int) (w : World) :
    Calls Try.prog 12 #[.int .i64 d, .int .i64 n, .int .i64 r, .int .i64 k] w fun e w' => e = .returned (.int .i64 (pauseI d n r k)) ∧ w = w' := by
  by_cases hd : pgB d = true
  · by_cases hn : pgB n = true
    · by_cases hr : r < 1
      · go_enter Try.func12, Try.ntmps12
        go_wp2_with (go_at_call 16; refine (pages_w _ _).mono ?_; rintro e w' ⟨rfl, rfl⟩)
        go_ret
        exact ⟨ret_int (by simp [pauseI, hr]), rfl⟩
      · by_cases hk : pgB k = true
        · by_cases hf : frB d n = true
          · go_enter Try.func12, Try.ntmps12
            go_wp2_with (first | (go_at_call 16; refine (pages_w _ _).mono ?_; rintro e w' ⟨rfl, rfl⟩) | (go_at_call 8; refine (free_w _ _ _).mono ?_; rintro e w' ⟨rfl, rfl⟩))
            go_ret
            exact ⟨ret_int (by simp [pauseI, hd, hn, hk, hf]; omega), rfl⟩
          · simp only [Bool.not_eq_true] at hf
            by_cases hk0 : k = 0
            · have hk1 : (k == 0) = true := by simpa using hk0
              have Hk := Lib.hid hk0
              clear hk0
              go_enter Try.func12, Try.ntmps12
              go_wp2_with (first | (go_at_call 16; refine (pages_w _ _).mono ?_; rintro e w' ⟨rfl, rfl⟩) | (go_at_call 8; refine (free_w _ _ _).mono ?_; rintro e w' ⟨rfl, rfl⟩))
              go_ret
              exact ⟨ret_int (by simp [pauseI, hd, hn, hk, Hk.out, show pgB 0 = true from rfl]; omega), rfl⟩
            · have hk1 : (k == 0) = false := by simpa using hk0
              by_cases hp : posI d n = 0
              · have hp1 : (posI d n == 0) = true := by simpa using hp
                have Hp := Lib.hid hp
                clear hp
                go_enter Try.func12, Try.ntmps12
                go_wp2_with (first | (go_at_call 16; refine (pages_w _ _).mono ?_; rintro e w' ⟨rfl, rfl⟩) | (go_at_call 8; refine (free_w _ _ _).mono ?_; rintro e w' ⟨rfl, rfl⟩) | (go_at_call 10; refine (position_w _ _ _).mono ?_; rintro e w' ⟨rfl, rfl⟩))
                go_ret
                exact ⟨ret_int (by simp [pauseI, hd, hn, hk, hf, hk0, Hp.out]), rfl⟩
              · exact pause_main d n r k w hd hn (by omega) hk hf hk1 (by simpa using hp)
        · simp only [Bool.not_eq_true] at hk
          go_enter Try.func12, Try.ntmps12
          go_wp2_with (go_at_call 16; refine (pages_w _ _).mono ?_; rintro e w' ⟨rfl, rfl⟩)
          go_ret
          exact ⟨ret_int (by simp [pauseI, hk]), rfl⟩
    · simp only [Bool.not_eq_true] at hn
      go_enter Try.func12, Try.ntmps12
      go_wp2_with (go_at_call 16; refine (pages_w _ _).mono ?_; rintro e w' ⟨rfl, rfl⟩)
      go_ret
      exact ⟨ret_int (by simp [pauseI, hn]), rfl⟩
  · simp only [Bool.not_eq_true] at hd
    go_enter Try.func12, Try.ntmps12
    go_wp2_with (go_at_call 16; refine (pages_w _ _).mono ?_; rintro e w' ⟨rfl, rfl⟩)
    go_ret
    exact ⟨ret_int (by simp [pauseI, hd]), rfl⟩

theorem rpause_main (d n r k : Int) (w : World) (hd : pgB d = true) (hn : pgB n = true) (hr : 1 ≤ r) (hk : pgB k = true) (hf : frB d n = false) (hk0 : (k == 0) = false) (hp : (posI d n == 0) = false) :
    Calls Try.prog 13 #[.int .i64 d, .int .i64 n, .int .i64 r, .int .i64 k] w fun e w' => e = .returned (.int .i64 (pauseI d n r k)) ∧ w = w' := by
  have ⟨h1, h2⟩ := pg_t hd
  have ⟨h3, h4⟩ := pg_t hn
  have ⟨h5, h6⟩ := pg_t hk
  have ⟨h7, h8⟩ := posI_range d n
  have ⟨h9, h10⟩ := rateI_range (d := d) (n := n) (r := r) hr (by simpa using hp)
  have Hfin : Hid (pauseI d n r k = min ((k * 65536 + rateI d n r - 1) / rateI d n r) 64) := by
    show pauseI d n r k = _
    have hp' : posI d n ≠ 0 := by simpa using hp
    have hk' : k ≠ 0 := by simpa using hk0
    simp only [pauseI, hd, hn, hk, hf, hp', hk', rateI]
    simp
    try omega
  by_cases hl : r ≤ 1000000
  · have hw : IntKind.i64.wrap (r * posI d n) = rateI d n r := by rw [show r * posI d n = rateI d n r from by rw [rateI, Int.min_eq_left hl]]; exact IntWalk.i64_in _ (by omega)
    go_enter Try.func13, Try.ntmps13
    go_wp2_with (first | (go_at_call 17; refine (frames_w _ _).mono ?_; rintro e w' ⟨rfl, rfl⟩) | (go_at_call 9; refine (rfree_w _ _ _).mono ?_; rintro e w' ⟨rfl, rfl⟩) | (go_at_call 11; refine (rposition_w _ _ _).mono ?_; rintro e w' ⟨rfl, rfl⟩))
    all_goals go_ret
    all_goals exact ⟨ret_int (by rw [Hfin.out]; omega), rfl⟩
  · have hw : IntKind.i64.wrap (1000000 * posI d n) = rateI d n r := by rw [show 1000000 * posI d n = rateI d n r from by rw [rateI, Int.min_eq_right (by omega)]]; exact IntWalk.i64_in _ (by omega)
    go_enter Try.func13, Try.ntmps13
    go_wp2_with (first | (go_at_call 17; refine (frames_w _ _).mono ?_; rintro e w' ⟨rfl, rfl⟩) | (go_at_call 9; refine (rfree_w _ _ _).mono ?_; rintro e w' ⟨rfl, rfl⟩) | (go_at_call 11; refine (rposition_w _ _ _).mono ?_; rintro e w' ⟨rfl, rfl⟩))
    all_goals go_ret
    all_goals exact ⟨ret_int (by rw [Hfin.out]; omega), rfl⟩

theorem rpause_w (d n r k : Int) (w : World) :
    Calls Try.prog 13 #[.int .i64 d, .int .i64 n, .int .i64 r, .int .i64 k] w fun e w' => e = .returned (.int .i64 (pauseI d n r k)) ∧ w = w' := by
  by_cases hd : pgB d = true
  · by_cases hn : pgB n = true
    · by_cases hr : r < 1
      · go_enter Try.func13, Try.ntmps13
        go_wp2_with (go_at_call 17; refine (frames_w _ _).mono ?_; rintro e w' ⟨rfl, rfl⟩)
        go_ret
        exact ⟨ret_int (by simp [pauseI, hr]), rfl⟩
      · by_cases hk : pgB k = true
        · by_cases hf : frB d n = true
          · go_enter Try.func13, Try.ntmps13
            go_wp2_with (first | (go_at_call 17; refine (frames_w _ _).mono ?_; rintro e w' ⟨rfl, rfl⟩) | (go_at_call 9; refine (rfree_w _ _ _).mono ?_; rintro e w' ⟨rfl, rfl⟩))
            go_ret
            exact ⟨ret_int (by simp [pauseI, hd, hn, hk, hf]; omega), rfl⟩
          · simp only [Bool.not_eq_true] at hf
            by_cases hk0 : k = 0
            · have hk1 : (k == 0) = true := by simpa using hk0
              have Hk := Lib.hid hk0
              clear hk0
              go_enter Try.func13, Try.ntmps13
              go_wp2_with (first | (go_at_call 17; refine (frames_w _ _).mono ?_; rintro e w' ⟨rfl, rfl⟩) | (go_at_call 9; refine (rfree_w _ _ _).mono ?_; rintro e w' ⟨rfl, rfl⟩))
              go_ret
              exact ⟨ret_int (by simp [pauseI, hd, hn, hk, Hk.out, show pgB 0 = true from rfl]; omega), rfl⟩
            · have hk1 : (k == 0) = false := by simpa using hk0
              by_cases hp : posI d n = 0
              · have hp1 : (posI d n == 0) = true := by simpa using hp
                have Hp := Lib.hid hp
                clear hp
                go_enter Try.func13, Try.ntmps13
                go_wp2_with (first | (go_at_call 17; refine (frames_w _ _).mono ?_; rintro e w' ⟨rfl, rfl⟩) | (go_at_call 9; refine (rfree_w _ _ _).mono ?_; rintro e w' ⟨rfl, rfl⟩) | (go_at_call 11; refine (rposition_w _ _ _).mono ?_; rintro e w' ⟨rfl, rfl⟩))
                go_ret
                exact ⟨ret_int (by simp [pauseI, hd, hn, hk, hf, hk0, Hp.out]), rfl⟩
              · exact rpause_main d n r k w hd hn (by omega) hk hf hk1 (by simpa using hp)
        · simp only [Bool.not_eq_true] at hk
          go_enter Try.func13, Try.ntmps13
          go_wp2_with (go_at_call 17; refine (frames_w _ _).mono ?_; rintro e w' ⟨rfl, rfl⟩)
          go_ret
          exact ⟨ret_int (by simp [pauseI, hk]), rfl⟩
    · simp only [Bool.not_eq_true] at hn
      go_enter Try.func13, Try.ntmps13
      go_wp2_with (go_at_call 17; refine (frames_w _ _).mono ?_; rintro e w' ⟨rfl, rfl⟩)
      go_ret
      exact ⟨ret_int (by simp [pauseI, hn]), rfl⟩
  · simp only [Bool.not_eq_true] at hd
    go_enter Try.func13, Try.ntmps13
    go_wp2_with (go_at_call 17; refine (frames_w _ _).mono ?_; rintro e w' ⟨rfl, rfl⟩)
    go_ret
    exact ⟨ret_int (by simp [pauseI, hd]), rfl⟩

theorem awake_w (w : World) : Calls Try.prog 14 #[] w fun e w' => e = .returned (.bool true) ∧ w = w' := by
  have a1 : posI 12 16 = 128 := by decide
  have a2 : pauseI 12 16 256 1 = 2 := by decide
  have a3 : pauseI 16 16 256 1 = 64 := by decide
  have a4 : pauseI 8 16 256 1 = 0 := by decide
  have a5 : frB 8 16 = true := by decide
  have a6 : frB 9 16 = false := by decide
  go_enter Try.func14, Try.ntmps14
  go_wp2_with (first | (go_at_call 10; refine (position_w _ _ _).mono ?_; rintro e w' ⟨rfl, rfl⟩) | (go_at_call 12; refine (pause_w _ _ _ _ _).mono ?_; rintro e w' ⟨rfl, rfl⟩) | (go_at_call 8; refine (free_w _ _ _).mono ?_; rintro e w' ⟨rfl, rfl⟩))
  go_ret
  exact ⟨rfl, rfl⟩

end Go.Proofs.Ytcbnlcpalhpkiaa
