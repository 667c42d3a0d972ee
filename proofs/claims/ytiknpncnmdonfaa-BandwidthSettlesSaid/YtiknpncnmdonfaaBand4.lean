/-
  The law BandwidthSettles returns true for all numbers, and nothing in memory changes.
-/
import Derived.Test.YtiknpncnmdonfaaBand3
namespace Go.Proofs.Ytiknpncnmdonfaa
open Go.RowKit
set_option linter.unusedVariables false

set_option maxRecDepth 100000 in
set_option maxHeartbeats 1000000 in
theorem bandwidthSettles_walk (a b c : Int) (w : World) :
    Calls Try.prog 4 #[.int .i64 a, .int .i64 b, .int .i64 c] w fun e w' => e = .returned (.bool true) ∧ Below w.heap.size w w' := by
  have ⟨n1, n2⟩ := cutI_range a 65 (by omega)
  have ⟨k1, k2⟩ := cutI_range b 40 (by omega)
  have ⟨p1, p2⟩ := cutI_range c 4000 (by omega)
  go_enter Try.func4, Try.ntmps4
  go_wp2_with (first | (go_at_call 17; refine (cut_w _ _ _ (by omega) (by omega)).mono ?_; rintro e w' ⟨rfl, rfl⟩) | (go_at_call 10; refine (bnote_w _ _ _ _ _ _).mono ?_; rintro e w1 ⟨rfl, hb⟩; obtain ⟨hc, hf, s1, s2, s3, s4, s5, s6, s7⟩ := kept hb) | (go_at_call 16; refine (awake_w _).mono ?_; rintro e w1 ⟨rfl, hb⟩))
  go_loopw [10] (fun i wr => ∃ (n : Nat) (A : Int), 1 ≤ n ∧ (n : Int) ≤ 2 + cutI b 40 ∧ i = .int .i64 n ∧ 0 ≤ A ∧ A ≤ 4000 ∧ Below w.heap.size w wr ∧ w.heap.size < wr.heap.size ∧
      wr.cell? ⟨w.heap.size, 0, none⟩ = some (.int .i64 A) ∧ wr.cell? ⟨w.heap.size, 1, none⟩ = some (.int .i64 (16 * (n - 1))) ∧ wr.cell? ⟨w.heap.size, 2, none⟩ = some (.int .i64 0) ∧
      wr.frozen? ⟨w.heap.size, 0, none⟩ = false ∧ wr.frozen? ⟨w.heap.size, 1, none⟩ = false ∧ wr.frozen? ⟨w.heap.size, 2, none⟩ = false) (fun i _ => (2 + cutI b 40 - intOf i).toNat)
  case atStart => exact ⟨1, cutI c 4000, by omega, by omega, rfl, by omega, by omega, (Below.refl _ _).alloc (Nat.le_refl _) _, by simp, by simp, by simp, by simp, by simp, by simp, by simp⟩
  case round =>
    obtain ⟨n, A, hn1, hn2, rfl, hA1, hA2, bel, hz, m0, m1, m2, g0, g1, g2⟩ := hrel
    by_cases hl : (n : Int) ≤ 1 + cutI b 40
    · have c1 : chB A (16 * ((n : Int) - 1)) 0 = true := by simp [chB]; omega
      have c2 : okB (16 * ((n : Int) - 1)) (16 * n) (cutI a 65) = true := by simp [okB]; omega
      have e1 : xA A (16 * ((n : Int) - 1)) 0 (16 * n) (cutI a 65) = (3 * A + 16 * cutI a 65) / 4 := by
        simp only [xA, c1, c2, and_self, if_true, nAvg]
        rw [if_pos (by omega), show 16 * (n : Int) - 16 * ((n : Int) - 1) = 16 from by omega]
        omega
      have e2 : xS A (16 * ((n : Int) - 1)) 0 (16 * n) (cutI a 65) = 16 * n := by
        simp only [xS, c1, c2, and_self, if_true, nStamp]
        rw [if_pos (by omega)]
      have e3 : xD A (16 * ((n : Int) - 1)) 0 (16 * n) (cutI a 65) = 0 := by
        simp only [xD, c1, c2, and_self, if_true, nDone]
        rw [if_pos (by omega)]
      have e4 : xE A (16 * ((n : Int) - 1)) 0 (16 * n) (cutI a 65) = 0 := by
        simp only [xE, c1, c2, if_true]
      clear c1 c2
      go_wp2_with (first | (go_at_call 17; refine (cut_w _ _ _ (by omega) (by omega)).mono ?_; rintro e w' ⟨rfl, rfl⟩) | (go_at_call 10; refine (bnote_w _ _ _ _ _ _).mono ?_; rintro e w1 ⟨rfl, hb⟩; obtain ⟨hc, hf, s1, s2, s3, s4, s5, s6, s7⟩ := kept hb) | (go_at_call 16; refine (awake_w _).mono ?_; rintro e w1 ⟨rfl, hb⟩))
      go_region
      all_goals go_wp2
      all_goals go_roundw
      all_goals first
        | (case measure => simp [intOf]; omega)
        | (case rel =>
            refine ⟨n + 1, (3 * A + 16 * cutI a 65) / 4, by omega, by omega, by go_num, by omega, by omega, by (repeat (with_reducible first | assumption | exact Below.refl _ _ | refine bl_alloc ?_ _ | apply Below.drew | refine below_drewN ?_ _ | (apply bl_step2; assumption) | (refine Below.setCell ?_ (Nat.le_refl _) _) | (refine Below.setCell ?_ (by first | omega | (simp; done) | (go_simp; done)) _))), ?_, ?_, ?_, ?_, ?_, ?_, ?_⟩
            all_goals go_simp
            all_goals omega)
    · go_wp2_with (first | (go_at_call 17; refine (cut_w _ _ _ (by omega) (by omega)).mono ?_; rintro e w' ⟨rfl, rfl⟩) | (go_at_call 10; refine (bnote_w _ _ _ _ _ _).mono ?_; rintro e w1 ⟨rfl, hb⟩; obtain ⟨hc, hf, s1, s2, s3, s4, s5, s6, s7⟩ := kept hb) | (go_at_call 16; refine (awake_w _).mono ?_; rintro e w1 ⟨rfl, hb⟩))
      go_ret
      exact ⟨rfl, by (repeat (with_reducible first | assumption | exact Below.refl _ _ | refine bl_alloc ?_ _ | apply Below.drew | refine below_drewN ?_ _ | (apply bl_step2; assumption) | (refine Below.setCell ?_ (Nat.le_refl _) _) | (refine Below.setCell ?_ (by first | omega | (simp; done) | (go_simp; done)) _)))⟩

end Go.Proofs.Ytiknpncnmdonfaa
