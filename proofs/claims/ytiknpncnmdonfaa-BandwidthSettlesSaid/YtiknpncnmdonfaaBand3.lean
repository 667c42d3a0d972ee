/-
  pagecacheref12.Note by its contract.
-/
import Derived.Test.YtiknpncnmdonfaaBand2
namespace Go.Proofs.Ytiknpncnmdonfaa
open Go.RowKit
set_option linter.unusedVariables false

set_option maxRecDepth 100000 in
set_option maxHeartbeats 3200000 in
theorem rnote_w (a s d now p : Int) (w : World) : Calls Try.prog 11 #[.agg #[.int .i64 a, .int .i64 s, .int .i64 d], .int .i64 now, .int .i64 p] w
    (RetM (xA a s d now p) (xS a s d now p) (xD a s d now p) (xE a s d now p) w) := by
  by_cases h : chB a s d = true
  · obtain ⟨a1, a2, d1, d2, s1, s2⟩ := ch_t h
    by_cases ho : okB s now p = true
    · have ⟨n1, n2, p1, p2⟩ : s ≤ now ∧ now ≤ 1000000 ∧ 0 ≤ p ∧ p ≤ 64 := by simpa [okB] using ho
      have f1 : xA a s d now p = nAvg a s d now p := by simp [xA, h, ho]
      have f2 : xS a s d now p = nStamp s now := by simp [xS, h, ho]
      have f3 : xD a s d now p = nDone s d now p := by simp [xD, h, ho]
      have f4 : xE a s d now p = 0 := by simp [xE, h, ho]
      rw [f1, f2, f3, f4]
      clear f1 f2 f3 f4 ho
      have ES : Hid (nStamp s now = if 16 ≤ now - s then now else s) := rfl
      by_cases hm : d + p ≤ 256000000
      · by_cases ht : 16 ≤ now - s
        · have q1 : 0 ≤ (d + p) * 256 / (now - s) := Int.ediv_nonneg (by omega) (by omega)
          have q2 : (d + p) * 256 / (now - s) ≤ (d + p) * 256 := Int.ediv_le_self _ (by omega)
          have EA : Hid (nAvg a s d now p = min ((3 * a + (d + p) * 256 / (now - s)) / 4) 256000000) := by simp only [Hid, nAvg, if_pos ht, Int.min_eq_left hm]
          have ED : Hid (nDone s d now p = 0) := by simp only [Hid, nDone, if_pos ht]
          go_enter Try.func11, Try.ntmps11
          go_wp2_with (go_at_call 13; refine (rcheck_w _ _ _ _).mono ?_; rintro e w1 ⟨rfl, hb⟩; obtain ⟨bel, k0, k1, k2, f0, f1, f2, j0, j1, j2, g0, g1, g2, z1, z2, y1, y2⟩ := own2 hb; clear hb)
          all_goals go_region
          all_goals go_wp2
          all_goals refine bodyPost_ret (v := .tuple #[.agg #[.int .i64 (nAvg a s d now p), .int .i64 (nStamp s now), .int .i64 (nDone s d now p)], .int .i64 0]) ?_ rfl ⟨rfl, ?_⟩
          any_goals ((repeat (with_reducible first | exact bel | apply Below.drew | (refine Below.setCell ?_ (by simp) _))); done)
          all_goals have e1 := EA.out
          all_goals have e2 := ES.out
          all_goals have e3 := ED.out
          all_goals simp [results, Try.results11, go_sem, k0, k1, k2, j0, j1, j2]
          all_goals omega
        · have EA : Hid (nAvg a s d now p = a) := by simp only [Hid, nAvg, if_neg ht]
          have ED : Hid (nDone s d now p = d + p) := by simp only [Hid, nDone, if_neg ht, Int.min_eq_left hm]
          go_enter Try.func11, Try.ntmps11
          go_wp2_with (go_at_call 13; refine (rcheck_w _ _ _ _).mono ?_; rintro e w1 ⟨rfl, hb⟩; obtain ⟨bel, k0, k1, k2, f0, f1, f2, j0, j1, j2, g0, g1, g2, z1, z2, y1, y2⟩ := own2 hb; clear hb)
          all_goals skip
          all_goals go_wp2
          all_goals refine bodyPost_ret (v := .tuple #[.agg #[.int .i64 (nAvg a s d now p), .int .i64 (nStamp s now), .int .i64 (nDone s d now p)], .int .i64 0]) ?_ rfl ⟨rfl, ?_⟩
          any_goals ((repeat (with_reducible first | exact bel | apply Below.drew | (refine Below.setCell ?_ (by simp) _))); done)
          all_goals have e1 := EA.out
          all_goals have e2 := ES.out
          all_goals have e3 := ED.out
          all_goals simp [results, Try.results11, go_sem, k0, k1, k2, j0, j1, j2]
          all_goals omega
      · have hm' : 256000000 < d + p := by omega
        by_cases ht : 16 ≤ now - s
        · have q1 : 0 ≤ (65536000000 : Int) / (now - s) := Int.ediv_nonneg (by omega) (by omega)
          have q2 : (65536000000 : Int) / (now - s) ≤ 65536000000 := Int.ediv_le_self _ (by omega)
          have EA : Hid (nAvg a s d now p = min ((3 * a + 65536000000 / (now - s)) / 4) 256000000) := by simp only [Hid, nAvg, if_pos ht, Int.min_eq_right (Int.le_of_lt hm'), Int.reduceMul]
          have ED : Hid (nDone s d now p = 0) := by simp only [Hid, nDone, if_pos ht]
          go_enter Try.func11, Try.ntmps11
          go_wp2_with (go_at_call 13; refine (rcheck_w _ _ _ _).mono ?_; rintro e w1 ⟨rfl, hb⟩; obtain ⟨bel, k0, k1, k2, f0, f1, f2, j0, j1, j2, g0, g1, g2, z1, z2, y1, y2⟩ := own2 hb; clear hb)
          all_goals go_region
          all_goals go_wp2
          all_goals refine bodyPost_ret (v := .tuple #[.agg #[.int .i64 (nAvg a s d now p), .int .i64 (nStamp s now), .int .i64 (nDone s d now p)], .int .i64 0]) ?_ rfl ⟨rfl, ?_⟩
          any_goals ((repeat (with_reducible first | exact bel | apply Below.drew | (refine Below.setCell ?_ (by simp) _))); done)
          all_goals have e1 := EA.out
          all_goals have e2 := ES.out
          all_goals have e3 := ED.out
          all_goals simp [results, Try.results11, go_sem, k0, k1, k2, j0, j1, j2]
          all_goals omega
        · have EA : Hid (nAvg a s d now p = a) := by simp only [Hid, nAvg, if_neg ht]
          have ED : Hid (nDone s d now p = 256000000) := by simp only [Hid, nDone, if_neg ht, Int.min_eq_right (Int.le_of_lt hm')]
          go_enter Try.func11, Try.ntmps11
          go_wp2_with (go_at_call 13; refine (rcheck_w _ _ _ _).mono ?_; rintro e w1 ⟨rfl, hb⟩; obtain ⟨bel, k0, k1, k2, f0, f1, f2, j0, j1, j2, g0, g1, g2, z1, z2, y1, y2⟩ := own2 hb; clear hb)
          all_goals skip
          all_goals go_wp2
          all_goals refine bodyPost_ret (v := .tuple #[.agg #[.int .i64 (nAvg a s d now p), .int .i64 (nStamp s now), .int .i64 (nDone s d now p)], .int .i64 0]) ?_ rfl ⟨rfl, ?_⟩
          any_goals ((repeat (with_reducible first | exact bel | apply Below.drew | (refine Below.setCell ?_ (by simp) _))); done)
          all_goals have e1 := EA.out
          all_goals have e2 := ES.out
          all_goals have e3 := ED.out
          all_goals simp [results, Try.results11, go_sem, k0, k1, k2, j0, j1, j2]
          all_goals omega
    · have hno : ¬ (s ≤ now ∧ now ≤ 1000000 ∧ 0 ≤ p ∧ p ≤ 64) := by simpa [okB] using ho
      have Ho := Lib.hid ho
      clear ho
      go_enter Try.func11, Try.ntmps11
      go_wp2_with (go_at_call 13; refine (rcheck_w _ _ _ _).mono ?_; rintro e w1 ⟨rfl, hb⟩; obtain ⟨hc, hf⟩ := bcell hb; obtain ⟨bel, z1, z2, y1, y2⟩ := bel2 hb)
      all_goals refine bodyPost_ret (v := .tuple #[.agg #[.int .i64 a, .int .i64 s, .int .i64 d], .int .i64 2]) ?_ rfl ⟨ret_m ?_ ?_ ?_ ?_, ?_⟩
      all_goals first
        | (simp [results, Try.results11, go_sem, hc, hf, z1, z2, y1, y2]; done)
        | (clear hc hf; simp [xA, xS, xD, xE, h, Ho.out]; done)
        | (clear hc hf; (repeat (with_reducible first | exact bel | apply Below.drew | (refine Below.setCell ?_ (by simp) _))); done)
  · simp only [Bool.not_eq_true] at h
    go_enter Try.func11, Try.ntmps11
    go_wp2_with (go_at_call 13; refine (rcheck_w _ _ _ _).mono ?_; rintro e w1 ⟨rfl, hb⟩; obtain ⟨hc, hf⟩ := bcell hb; obtain ⟨bel, z1, z2, y1, y2⟩ := bel2 hb)
    exact bodyPost_ret (v := .tuple #[.agg #[.int .i64 a, .int .i64 s, .int .i64 d], .int .i64 1]) (by simp [results, Try.results11, go_sem, hc, hf, z1, z2, y1, y2]) rfl
        ⟨ret_m (by simp [xA, h]) (by simp [xS, h]) (by simp [xD, h]) (by simp [xE, h]), by (repeat (with_reducible first | exact bel | apply Below.drew | (refine Below.setCell ?_ (by simp) _)))⟩

def rateI (a s d : Int) : Int := if chB a s d = true then max 1 a else 1
theorem own1 {w w1 : World} {a s d : Value} {t : TypeId} (hb : Below (w.alloc (.cells #[a, s, d] t)).heap.size (w.alloc (.cells #[a, s, d] t)) w1) :
    Below w.heap.size w w1 ∧ w1.cell? ⟨w.heap.size, 0, none⟩ = some a := by
  obtain ⟨hc, hf⟩ := bcell hb
  exact ⟨((Below.refl _ _).alloc (Nat.le_refl _) _).trans (hb.mono (by simp)), by rw [hc _ _ (by simp)]; simp⟩
set_option maxRecDepth 100000 in
theorem brate_w (a s d : Int) (w : World) : Calls Try.prog 14 #[.agg #[.int .i64 a, .int .i64 s, .int .i64 d]] w (RetI (rateI a s d) w) := by
  by_cases hch : chB a s d = true
  · go_enter Try.func14, Try.ntmps14
    go_wp2_with (go_at_call 12; refine (check_w _ _ _ _).mono ?_; rintro e w1 ⟨rfl, hb⟩; obtain ⟨bel, k0⟩ := own1 hb; clear hb)
    all_goals go_ret
    all_goals exact ⟨ret_int (by unfold rateI; rw [if_pos hch]; omega), bel⟩
  · simp only [Bool.not_eq_true] at hch
    go_enter Try.func14, Try.ntmps14
    go_wp2_with (go_at_call 12; refine (check_w _ _ _ _).mono ?_; rintro e w1 ⟨rfl, hb⟩; obtain ⟨bel, k0⟩ := own1 hb; clear hb)
    go_ret
    exact ⟨ret_int (by simp [rateI, hch]), bel⟩
set_option maxRecDepth 100000 in
theorem rrate_w (a s d : Int) (w : World) : Calls Try.prog 15 #[.agg #[.int .i64 a, .int .i64 s, .int .i64 d]] w (RetI (rateI a s d) w) := by
  by_cases hch : chB a s d = true
  · go_enter Try.func15, Try.ntmps15
    go_wp2_with (go_at_call 13; refine (rcheck_w _ _ _ _).mono ?_; rintro e w1 ⟨rfl, hb⟩; obtain ⟨bel, k0⟩ := own1 hb; clear hb)
    all_goals go_ret
    all_goals exact ⟨ret_int (by unfold rateI; rw [if_pos hch]; omega), bel⟩
  · simp only [Bool.not_eq_true] at hch
    go_enter Try.func15, Try.ntmps15
    go_wp2_with (go_at_call 13; refine (rcheck_w _ _ _ _).mono ?_; rintro e w1 ⟨rfl, hb⟩; obtain ⟨bel, k0⟩ := own1 hb; clear hb)
    go_ret
    exact ⟨ret_int (by simp [rateI, hch]), bel⟩

set_option maxRecDepth 100000 in
theorem awake_w (w : World) : Calls Try.prog 16 #[] w (RetB true w) := by
  have a1 : stA 0 = 256 := by decide
  have a2 : stS 0 = 0 := by decide
  have a3 : stE 0 = 0 := by decide
  have b1 : xA 256 0 0 16 32 = 320 := by decide
  have b2 : xS 256 0 0 16 32 = 16 := by decide
  have b3 : xD 256 0 0 16 32 = 0 := by decide
  have b4 : xE 256 0 0 16 32 = 0 := by decide
  have c1 : rateI 320 16 0 = 320 := by decide
  have c2 : rateI 0 0 0 = 1 := by decide
  have c3 : chB 320 16 0 = true := by decide
  have c4 : chB (-1) 0 0 = false := by decide
  go_enter Try.func16, Try.ntmps16
  go_wp2_with (first | (go_at_call 8; refine (start_w _ _).mono ?_; rintro e w1 ⟨rfl, hb⟩; obtain ⟨hc, hf, s1, s2, s3, s4, s5, s6, s7⟩ := kept hb) | (go_at_call 10; refine (bnote_w _ _ _ _ _ _).mono ?_; rintro e w1 ⟨rfl, hb⟩; obtain ⟨hc, hf, s1, s2, s3, s4, s5, s6, s7⟩ := kept hb) | (go_at_call 14; refine (brate_w _ _ _ _).mono ?_; rintro e w1 ⟨rfl, hb⟩; obtain ⟨hc, hf, s1, s2, s3, s4, s5, s6, s7⟩ := kept hb) | (go_at_call 12; refine (check_w _ _ _ _).mono ?_; rintro e w1 ⟨rfl, hb⟩; obtain ⟨hc, hf, s1, s2, s3, s4, s5, s6, s7⟩ := kept hb))
  go_ret
  exact ⟨rfl, by (repeat (with_reducible first | assumption | exact Below.refl _ _ | refine bl_alloc ?_ _ | apply Below.drew | refine below_drewN ?_ _ | (apply bl_step2; assumption) | (refine Below.setCell ?_ (Nat.le_refl _) _) | (refine Below.setCell ?_ (by first | omega | (simp; done) | (go_simp; done)) _)))⟩

end Go.Proofs.Ytiknpncnmdonfaa
