/-
  Plain facts on pauses: they grow with the dirty pages and with the pages to dirty, and fall with the rate.
-/
import Derived.Test.YtcbnlcpalhpkiaaThrottle
namespace Go.Proofs.Ytcbnlcpalhpkiaa

/-- Division that rounds up. -/
def cdiv (x d : Int) : Int := (x + d - 1) / d
theorem cdiv_mul (x d : Int) (hd : 1 ≤ d) : x ≤ cdiv x d * d ∧ (cdiv x d - 1) * d < x := by
  unfold cdiv
  have h1 := Int.mul_ediv_add_emod (x + d - 1) d
  have h2 := Int.emod_nonneg (x + d - 1) (b := d) (by omega)
  have h3 := Int.emod_lt_of_pos (x + d - 1) (b := d) (by omega)
  generalize (x + d - 1) / d = q at *
  have h4 : d * q = q * d := Int.mul_comm _ _
  have h5 : (q - 1) * d = q * d - d := by rw [Int.sub_mul, Int.one_mul]
  omega
theorem cdiv_le {x d c : Int} (hd : 1 ≤ d) (h : x ≤ c * d) : cdiv x d ≤ c := by
  have h1 := (cdiv_mul x d hd).2
  have h2 : (cdiv x d - 1) * d < c * d := by omega
  have := Int.lt_of_mul_lt_mul_right h2 (by omega)
  omega
theorem cdiv_nonneg (x d : Int) (hx : 0 ≤ x) (hd : 1 ≤ d) : 0 ≤ cdiv x d := Int.ediv_nonneg (by omega) (by omega)
theorem cdiv_mono {x y d : Int} (hd : 1 ≤ d) (h : x ≤ y) : cdiv x d ≤ cdiv y d := cdiv_le hd (Int.le_trans h (cdiv_mul y d hd).1)
theorem cdiv_anti {x d d' : Int} (hx : 0 ≤ x) (hd : 1 ≤ d) (h : d ≤ d') : cdiv x d' ≤ cdiv x d := by
  refine cdiv_le (by omega) ?_
  have h1 := (cdiv_mul x d hd).1
  have h2 := Int.mul_le_mul_of_nonneg_left h (cdiv_nonneg x d hx hd)
  omega
theorem cdiv_pos {x d : Int} (hx : 1 ≤ x) (hd : 1 ≤ d) : 1 ≤ cdiv x d := by
  have h1 := (cdiv_mul x d hd).1
  have h0 := cdiv_nonneg x d (by omega) hd
  by_cases h : cdiv x d = 0
  · rw [h] at h1; omega
  · omega

theorem pg_mk {n : Int} (h1 : 0 ≤ n) (h2 : n ≤ 64) : pgB n = true := by simp [pgB]; omega

/-- The position at numbers of frames. -/
theorem posI_eq {d n : Int} (h1 : 0 ≤ d) (h2 : d ≤ 64) (h3 : 0 ≤ n) (h4 : n ≤ 64) :
    posI d n = if 2 * d ≤ n then 256 else if n ≤ d then 0 else (n - d) * 512 / n := by
  simp [posI, pg_mk h1 h2, pg_mk h3 h4, fr_eq]

theorem pos_anti {a b n : Int} (h1 : 0 ≤ a) (hab : a ≤ b) (h2 : b ≤ 64) (h3 : 0 ≤ n) (h4 : n ≤ 64) : posI b n ≤ posI a n := by
  rw [posI_eq h1 (by omega) h3 h4, posI_eq (by omega) h2 h3 h4]
  by_cases c1 : 2 * a ≤ n
  · rw [if_pos c1]
    split
    · omega
    · split
      · omega
      · exact Int.ediv_le_of_le_mul (by omega) (by omega)
  · rw [if_neg c1, if_neg (by omega)]
    by_cases c2 : n ≤ b
    · rw [if_pos c2]
      split
      · omega
      · exact Int.ediv_nonneg (by omega) (by omega)
    · rw [if_neg c2, if_neg (by omega)]
      exact Int.ediv_le_ediv (by omega) (by omega)

theorem pos_pos {d n : Int} (h1 : 0 ≤ d) (h3 : d < n) (h4 : n ≤ 64) : 1 ≤ posI d n := by
  rw [posI_eq h1 (by omega) (by omega) h4]
  split
  · omega
  · rw [if_neg (by omega)]
    exact (Int.le_ediv_iff_mul_le (by omega)).2 (by omega)

theorem pos_zero {d n : Int} (h1 : 0 ≤ d) (h2 : d ≤ 64) (h3 : 0 ≤ n) (h4 : n ≤ 64) (h : n ≤ d) (h' : n < 2 * d) : posI d n = 0 := by
  rw [posI_eq h1 h2 h3 h4, if_neg (by omega), if_pos h]

/-- A pause at numbers of frames. -/
theorem pauseI_eq {d n r k : Int} (h1 : 0 ≤ d) (h2 : d ≤ 64) (h3 : 0 ≤ n) (h4 : n ≤ 64) (hr : 1 ≤ r) (hk0 : 0 ≤ k) (hk : k ≤ 64) :
    pauseI d n r k = if 2 * d ≤ n ∨ k = 0 then 0 else if n ≤ d then 64 else min (cdiv (k * 65536) (rateI d n r)) 64 := by
  have hr' : ¬ r < 1 := by omega
  simp only [pauseI, pg_mk h1 h2, pg_mk h3 h4, pg_mk hk0 hk, fr_eq (pg_mk h1 h2) (pg_mk h3 h4), hr', cdiv, rateI]
  by_cases c : 2 * d ≤ n ∨ k = 0
  · simp [c]
  · rw [not_or] at c
    by_cases c2 : n ≤ d
    · simp [c, c2, pos_zero h1 h2 h3 h4 c2 (by omega)]
    · have := pos_pos h1 (by omega : d < n) h4
      simp [c, c2, show posI d n ≠ 0 from by omega]

theorem rate_pos {d n r : Int} (h1 : 0 ≤ d) (h3 : d < n) (h4 : n ≤ 64) (hr : 1 ≤ r) : 1 ≤ rateI d n r :=
  (rateI_range hr (by have := pos_pos h1 h3 h4; omega)).1

theorem pause_range {d n r k : Int} (h1 : 0 ≤ d) (h2 : d ≤ 64) (h3 : 0 ≤ n) (h4 : n ≤ 64) (hr : 1 ≤ r) (hk0 : 0 ≤ k) (hk : k ≤ 64) :
    0 ≤ pauseI d n r k ∧ pauseI d n r k ≤ 64 ∧ (1 ≤ k → (2 * d ≤ n ↔ pauseI d n r k = 0)) ∧ (1 ≤ k → n < 2 * d → n ≤ d → pauseI d n r k = 64) := by
  rw [pauseI_eq h1 h2 h3 h4 hr hk0 hk]
  by_cases c : 2 * d ≤ n ∨ k = 0
  · simp [c]; omega
  · rw [if_neg c]
    rw [not_or] at c
    by_cases c2 : n ≤ d
    · rw [if_pos c2]; omega
    · rw [if_neg c2]
      have h5 := rate_pos h1 (by omega : d < n) h4 hr
      have h6 := cdiv_pos (x := k * 65536) (by omega) h5
      omega

theorem pause_mono_d {a b n r k : Int} (h1 : 0 ≤ a) (hab : a ≤ b) (h2 : b ≤ 64) (h3 : 0 ≤ n) (h4 : n ≤ 64) (hr : 1 ≤ r) (hk0 : 0 ≤ k) (hk : k ≤ 64) : pauseI a n r k ≤ pauseI b n r k := by
  have hb := pause_range (d := b) (n := n) (r := r) (k := k) (by omega) h2 h3 h4 hr hk0 hk
  by_cases c : 2 * a ≤ n ∨ k = 0
  · rw [pauseI_eq h1 (by omega) h3 h4 hr hk0 hk, if_pos c]; omega
  · have c' : ¬ (2 * b ≤ n ∨ k = 0) := by omega
    have ha := pause_range (d := a) (n := n) (r := r) (k := k) h1 (by omega) h3 h4 hr hk0 hk
    by_cases c2 : n ≤ b
    · have := hb.2.2.2 (by omega) (by omega) c2; omega
    · rw [pauseI_eq h1 (by omega) h3 h4 hr hk0 hk, if_neg c, if_neg (by omega), pauseI_eq (by omega) h2 h3 h4 hr hk0 hk, if_neg c', if_neg c2]
      have h5 := rate_pos (d := b) (by omega) (by omega : b < n) h4 hr
      have h6 : rateI b n r ≤ rateI a n r := Int.mul_le_mul_of_nonneg_left (pos_anti h1 hab h2 h3 h4) (by omega)
      have h7 := cdiv_anti (x := k * 65536) (by omega) h5 h6
      omega

theorem pause_mono_k {d n r k : Int} (h1 : 0 ≤ d) (h2 : d ≤ 64) (h3 : 0 ≤ n) (h4 : n ≤ 64) (hr : 1 ≤ r) (hk0 : 0 ≤ k) (hk : k ≤ 63) : pauseI d n r k ≤ pauseI d n r (k + 1) := by
  have hb := pause_range (d := d) (n := n) (r := r) (k := k + 1) h1 h2 h3 h4 hr (by omega) (by omega)
  have ha := pause_range (d := d) (n := n) (r := r) (k := k) h1 h2 h3 h4 hr (by omega) (by omega)
  by_cases c : 2 * d ≤ n ∨ k = 0
  · rw [pauseI_eq h1 h2 h3 h4 hr hk0 (by omega), if_pos c]; omega
  · by_cases c2 : n ≤ d
    · have := hb.2.2.2 (by omega) (by omega) c2; omega
    · rw [pauseI_eq h1 h2 h3 h4 hr hk0 (by omega), if_neg c, if_neg c2, pauseI_eq h1 h2 h3 h4 hr (by omega) (by omega), if_neg (by omega), if_neg c2]
      have h5 := rate_pos h1 (by omega : d < n) h4 hr
      have h7 := cdiv_mono h5 (show k * 65536 ≤ (k + 1) * 65536 by omega)
      omega

theorem pause_anti_r {d n r k : Int} (h1 : 0 ≤ d) (h2 : d ≤ 64) (h3 : 0 ≤ n) (h4 : n ≤ 64) (hr : 1 ≤ r) (hk0 : 0 ≤ k) (hk : k ≤ 64) : pauseI d n (r + 1) k ≤ pauseI d n r k := by
  have ha := pause_range (d := d) (n := n) (r := r) (k := k) h1 h2 h3 h4 hr hk0 hk
  have hb := pause_range (d := d) (n := n) (r := r + 1) (k := k) h1 h2 h3 h4 (by omega) hk0 hk
  by_cases c : 2 * d ≤ n ∨ k = 0
  · rw [pauseI_eq h1 h2 h3 h4 (by omega) hk0 hk, if_pos c]; omega
  · by_cases c2 : n ≤ d
    · have := ha.2.2.2 (by omega) (by omega) c2; omega
    · rw [pauseI_eq h1 h2 h3 h4 (by omega) hk0 hk, if_neg c, if_neg c2, pauseI_eq h1 h2 h3 h4 hr hk0 hk, if_neg c, if_neg c2]
      have h5 := rate_pos h1 (by omega : d < n) h4 hr
      have hp := pos_pos h1 (by omega : d < n) h4
      have h6 : rateI d n r ≤ rateI d n (r + 1) := Int.mul_le_mul_of_nonneg_right (by omega) (by omega)
      have h7 := cdiv_anti (x := k * 65536) (by omega) h5 h6
      omega

/-- In a pause that is neither nothing nor the longest one as many pages are written as were dirtied, and not in one tick less. -/
theorem pause_pays {d n r k : Int} (h1 : 0 ≤ d) (h2 : d ≤ 64) (h3 : 0 ≤ n) (h4 : n ≤ 64) (hr : 1 ≤ r) (hr2 : r ≤ 1000000) (hk0 : 0 ≤ k) (hk : k ≤ 64) (hp0 : pauseI d n r k ≠ 0) (hp1 : pauseI d n r k < 64) :
    k * 65536 ≤ pauseI d n r k * r * posI d n ∧ (pauseI d n r k - 1) * r * posI d n < k * 65536 := by
  rw [pauseI_eq h1 h2 h3 h4 hr hk0 hk] at *
  by_cases c : 2 * d ≤ n ∨ k = 0
  · rw [if_pos c] at hp0; omega
  · rw [if_neg c] at *
    by_cases c2 : n ≤ d
    · rw [if_pos c2] at hp1; omega
    · rw [if_neg c2] at *
      have h5 := rate_pos h1 (by omega : d < n) h4 hr
      have h6 := cdiv_mul (k * 65536) _ h5
      rw [Int.min_eq_left (by omega)]
      have e : rateI d n r = r * posI d n := by rw [rateI, Int.min_eq_left hr2]
      rw [Int.mul_assoc, Int.mul_assoc, ← e]
      exact h6

end Go.Proofs.Ytcbnlcpalhpkiaa
