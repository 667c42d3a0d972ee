/-
  The laws ThrottleGrows and ThrottlePays return true for all numbers, and nothing in memory changes.
-/
import Derived.Test.YtcbnlcpalhpkiaaThrPlain
namespace Go.Proofs.Ytcbnlcpalhpkiaa
open Go.RowKit


theorem throttleGrows_walk (d m l r p : Int) (w : World) :
    Calls Try.prog 4 #[.int .i64 d, .int .i64 m, .int .i64 l, .int .i64 r, .int .i64 p] w fun e w' => e = .returned (.bool true) ∧ Below w.heap.size w w' := by
  have ⟨n1, n2⟩ := cutI_range l 65 (by omega)
  have ⟨a1, a2⟩ := cutI_range d 65 (by omega)
  have ⟨m1, m2⟩ := cutI_range m (65 - cutI d 65) (by omega)
  have ⟨r1, r2⟩ := cutI_range r 3000 (by omega)
  have ⟨k1, k2⟩ := cutI_range p 6 (by omega)
  have f1 := pause_mono_d (a := cutI d 65) (b := cutI d 65 + cutI m (65 - cutI d 65)) (n := cutI l 65) (r := 1 + cutI r 3000) (k := cutI p 6) (by omega) (by omega) (by omega) (by omega) (by omega) (by omega) (by omega) (by omega)
  have f2 := pause_mono_k (d := cutI d 65) (n := cutI l 65) (r := 1 + cutI r 3000) (k := cutI p 6) (by omega) (by omega) (by omega) (by omega) (by omega) (by omega) (by omega)
  have f3 := pause_anti_r (d := cutI d 65) (n := cutI l 65) (r := 1 + cutI r 3000) (k := cutI p 6) (by omega) (by omega) (by omega) (by omega) (by omega) (by omega) (by omega)
  have ⟨f4, f5, f6, f7⟩ := pause_range (d := cutI d 65) (n := cutI l 65) (r := 1 + cutI r 3000) (k := cutI p 6) (by omega) (by omega) (by omega) (by omega) (by omega) (by omega) (by omega)
  have F6 := Lib.hid f6
  have F7 := Lib.hid f7
  clear f6 f7
  go_enter Try.func4, Try.ntmps4
  go_wp2_with (first | (go_at_call 15; refine (cut_w _ _ _ (by omega) (by omega)).mono ?_; rintro e w' ⟨rfl, rfl⟩) | (go_at_call 10; refine (position_w _ _ _).mono ?_; rintro e w' ⟨rfl, rfl⟩) | (go_at_call 12; refine (pause_w _ _ _ _ _).mono ?_; rintro e w' ⟨rfl, rfl⟩) | (go_at_call 14; refine (awake_w _).mono ?_; rintro e w' ⟨rfl, rfl⟩))
  all_goals first
    | (go_ret; exact ⟨rfl, Below.refl _ _⟩)
    | (exfalso; have G6 := F6.out (by omega); have G7 := F7.out (by omega); omega)
    | (exfalso; have G6 := F6.out (by omega); exact (‹¬ decide (2 * cutI d 65 ≤ cutI l 65) = (pauseI (cutI d 65) (cutI l 65) (1 + cutI r 3000) (cutI p 6) == 0)›) (by rw [Bool.eq_iff_iff]; simp only [decide_eq_true_eq, beq_iff_eq]; exact G6))

theorem throttlePays_walk (d l r p : Int) (w : World) :
    Calls Try.prog 5 #[.int .i64 d, .int .i64 l, .int .i64 r, .int .i64 p] w fun e w' => e = .returned (.bool true) ∧ Below w.heap.size w w' := by
  have ⟨n1, n2⟩ := cutI_range l 65 (by omega)
  have ⟨a1, a2⟩ := cutI_range d 65 (by omega)
  have ⟨r1, r2⟩ := cutI_range r 3000 (by omega)
  have ⟨k1, k2⟩ := cutI_range p 5 (by omega)
  have ⟨f4, f5, _, _⟩ := pause_range (d := cutI d 65) (n := cutI l 65) (r := 1 + cutI r 3000) (k := 1 + cutI p 5) (by omega) (by omega) (by omega) (by omega) (by omega) (by omega) (by omega)
  have f6 := pause_pays (d := cutI d 65) (n := cutI l 65) (r := 1 + cutI r 3000) (k := 1 + cutI p 5) (by omega) (by omega) (by omega) (by omega) (by omega) (by omega) (by omega) (by omega)
  have ⟨p1, p2⟩ := posI_range (cutI d 65) (cutI l 65)
  have q1 := mul_bd 64 3000 (a := pauseI (cutI d 65) (cutI l 65) (1 + cutI r 3000) (1 + cutI p 5)) (b := 1 + cutI r 3000) f4 f5 (by omega) (by omega)
  have q2 := mul_bd 192000 512 q1.1 q1.2 p1 p2
  by_cases c0 : pauseI (cutI d 65) (cutI l 65) (1 + cutI r 3000) (1 + cutI p 5) = 0
  · have c1 : (pauseI (cutI d 65) (cutI l 65) (1 + cutI r 3000) (1 + cutI p 5) == 0) = true := by simpa using c0
    clear f6 q1 q2 c0
    go_enter Try.func5, Try.ntmps5
    go_wp2_with (first | (go_at_call 15; refine (cut_w _ _ _ (by omega) (by omega)).mono ?_; rintro e w' ⟨rfl, rfl⟩) | (go_at_call 10; refine (position_w _ _ _).mono ?_; rintro e w' ⟨rfl, rfl⟩) | (go_at_call 12; refine (pause_w _ _ _ _ _).mono ?_; rintro e w' ⟨rfl, rfl⟩) | (go_at_call 14; refine (awake_w _).mono ?_; rintro e w' ⟨rfl, rfl⟩))
    go_ret
    exact ⟨rfl, Below.refl _ _⟩
  · have c1 : (pauseI (cutI d 65) (cutI l 65) (1 + cutI r 3000) (1 + cutI p 5) == 0) = false := by simpa using c0
    by_cases c2 : 64 ≤ pauseI (cutI d 65) (cutI l 65) (1 + cutI r 3000) (1 + cutI p 5)
    · clear f6 q1 q2 c0
      go_enter Try.func5, Try.ntmps5
      go_wp2_with (first | (go_at_call 15; refine (cut_w _ _ _ (by omega) (by omega)).mono ?_; rintro e w' ⟨rfl, rfl⟩) | (go_at_call 10; refine (position_w _ _ _).mono ?_; rintro e w' ⟨rfl, rfl⟩) | (go_at_call 12; refine (pause_w _ _ _ _ _).mono ?_; rintro e w' ⟨rfl, rfl⟩) | (go_at_call 14; refine (awake_w _).mono ?_; rintro e w' ⟨rfl, rfl⟩))
      go_ret
      exact ⟨rfl, Below.refl _ _⟩
    · have q3 := mul_bd 64 3000 (a := pauseI (cutI d 65) (cutI l 65) (1 + cutI r 3000) (1 + cutI p 5) - 1) (b := 1 + cutI r 3000) (by omega) (by omega) (by omega) (by omega)
      have q4 := mul_bd 192000 512 q3.1 q3.2 p1 p2
      have w1 := IntWalk.i64_in (pauseI (cutI d 65) (cutI l 65) (1 + cutI r 3000) (1 + cutI p 5) * (1 + cutI r 3000)) (by omega)
      have w2 := IntWalk.i64_in (pauseI (cutI d 65) (cutI l 65) (1 + cutI r 3000) (1 + cutI p 5) * (1 + cutI r 3000) * posI (cutI d 65) (cutI l 65)) (by omega)
      have w3 := IntWalk.i64_in ((pauseI (cutI d 65) (cutI l 65) (1 + cutI r 3000) (1 + cutI p 5) - 1) * (1 + cutI r 3000)) (by omega)
      have w4 := IntWalk.i64_in ((pauseI (cutI d 65) (cutI l 65) (1 + cutI r 3000) (1 + cutI p 5) - 1) * (1 + cutI r 3000) * posI (cutI d 65) (cutI l 65)) (by omega)
      have ⟨g1, g2⟩ := f6 c0 (by omega)
      clear f6 q1 q2 q3 q4 c0
      go_enter Try.func5, Try.ntmps5
      go_wp2_with (first | (go_at_call 15; refine (cut_w _ _ _ (by omega) (by omega)).mono ?_; rintro e w' ⟨rfl, rfl⟩) | (go_at_call 10; refine (position_w _ _ _).mono ?_; rintro e w' ⟨rfl, rfl⟩) | (go_at_call 12; refine (pause_w _ _ _ _ _).mono ?_; rintro e w' ⟨rfl, rfl⟩) | (go_at_call 14; refine (awake_w _).mono ?_; rintro e w' ⟨rfl, rfl⟩))
      go_ret
      exact ⟨rfl, Below.refl _ _⟩

end Go.Proofs.Ytcbnlcpalhpkiaa
