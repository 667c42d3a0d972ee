/-
  The functions of packages bandwidth and pagecacheref12, by contracts: both packages compute the same measures, at all arguments.
-/
import Derived.Test.YtiknpncnmdonfaaTape
import Derived.BigRegion
namespace Go.Proofs.Ytiknpncnmdonfaa
open Go.RowKit
set_option linter.unusedVariables false

theorem bcell {B : Nat} {W w1 : World} (hb : Below B W w1) : (∀ b o, b < B → w1.cell? ⟨b, o, none⟩ = W.cell? ⟨b, o, none⟩) ∧ (∀ b o, b < B → w1.frozen? ⟨b, o, none⟩ = W.frozen? ⟨b, o, none⟩) :=
  ⟨fun b o h => hb.cell (p := ⟨b, o, none⟩) h, fun b o h => hb.frozen (p := ⟨b, o, none⟩) h⟩

theorem gb_drew {w w' : World} {r : Option Nat} (h : w.grownBy w' r) : w.grownBy w'.drew r := ⟨h.os, h.tape, h.output, h.size, h.block⟩
theorem gb_set {w w' : World} {b o : Nat} {v : Value} (h : w.grownBy w' (some b)) : w.grownBy (w'.setCell ⟨b, o, none⟩ v) (some b) := grownBy_trans h (grownBy_setCell w' ⟨b, o, none⟩ v)

def chB (a s d : Int) : Bool := decide (0 ≤ a ∧ a ≤ 256000000 ∧ 0 ≤ d ∧ d ≤ 256000000 ∧ 0 ≤ s ∧ s ≤ 1000000)
theorem ch_t {a s d : Int} (h : chB a s d = true) : 0 ≤ a ∧ a ≤ 256000000 ∧ 0 ≤ d ∧ d ≤ 256000000 ∧ 0 ≤ s ∧ s ≤ 1000000 := by simpa [chB] using h

def RetB (b : Bool) (w : World) (e : Ending) (w' : World) : Prop := e = .returned (.bool b) ∧ Below w.heap.size w w'
def RetI (n : Int) (w : World) (e : Ending) (w' : World) : Prop := e = .returned (.int .i64 n) ∧ Below w.heap.size w w'

set_option maxRecDepth 100000 in
theorem right_w (a s d : Int) (w : World) : Calls Try.prog 19 #[.agg #[.int .i64 a, .int .i64 s, .int .i64 d]] w (RetB (chB a s d) w) := by
  go_enter Try.func19, Try.ntmps19
  go_wp2
  all_goals go_ret
  all_goals exact ⟨ret_bool (by rw [Bool.eq_iff_iff]; simp [chB]; try omega), (Below.refl _ _).alloc (Nat.le_refl _) _⟩

theorem check_w (a s d : Int) (w : World) : Calls Try.prog 12 #[.agg #[.int .i64 a, .int .i64 s, .int .i64 d]] w (RetB (chB a s d) w) := by
  go_enter Try.func12, Try.ntmps12
  go_wp2_with (go_at_call 19; refine (right_w _ _ _ _).mono ?_; rintro e w' ⟨rfl, hb⟩)
  go_ret
  exact ⟨rfl, ((Below.refl _ _).alloc (Nat.le_refl _) _).trans (hb.mono (by simp))⟩

set_option maxRecDepth 100000 in
theorem rcheck_w (a s d : Int) (w : World) : Calls Try.prog 13 #[.agg #[.int .i64 a, .int .i64 s, .int .i64 d]] w (RetB (chB a s d) w) := by
  go_enter Try.func13, Try.ntmps13
  go_wp2
  all_goals go_ret
  all_goals exact ⟨ret_bool (by rw [Bool.eq_iff_iff]; simp [chB]; try omega), (Below.refl _ _).alloc (Nat.le_refl _) _⟩

/-- What Note makes of a measure: the average, the stamp, the pages, and the error. -/
def nAvg (a s d now p : Int) : Int := if 16 ≤ now - s then min ((3 * a + min (d + p) 256000000 * 256 / (now - s)) / 4) 256000000 else a
def nStamp (s now : Int) : Int := if 16 ≤ now - s then now else s
def nDone (s d now p : Int) : Int := if 16 ≤ now - s then 0 else min (d + p) 256000000
def okB (s now p : Int) : Bool := decide (s ≤ now ∧ now ≤ 1000000 ∧ 0 ≤ p ∧ p ≤ 64)

/-- One note, on the meter in block b. -/
def Noted (b : Nat) (a s d now p : Int) (w : World) (e : Ending) (w' : World) : Prop :=
  e = .returned (.tuple #[]) ∧ w.grownBy w' (some b) ∧ w'.cell? ⟨b, 0, none⟩ = some (.int .i64 (nAvg a s d now p)) ∧ w'.cell? ⟨b, 1, none⟩ = some (.int .i64 (nStamp s now)) ∧ w'.cell? ⟨b, 2, none⟩ = some (.int .i64 (nDone s d now p))

set_option maxRecDepth 100000 in
set_option maxHeartbeats 1600000 in
theorem note_w (b : Nat) (a s d now p : Int) (w : World) (hc : chB a s d = true) (ho : okB s now p = true)
    (c0 : w.cell? ⟨b, 0, none⟩ = some (.int .i64 a)) (c1 : w.cell? ⟨b, 1, none⟩ = some (.int .i64 s)) (c2 : w.cell? ⟨b, 2, none⟩ = some (.int .i64 d))
    (f0 : w.frozen? ⟨b, 0, none⟩ = false) (f1 : w.frozen? ⟨b, 1, none⟩ = false) (f2 : w.frozen? ⟨b, 2, none⟩ = false) :
    Calls Try.prog 18 #[.pointer (some ⟨b, 0, none⟩), .int .i64 now, .int .i64 p] w (Noted b a s d now p w) := by
  obtain ⟨a1, a2, d1, d2, s1, s2⟩ := ch_t hc
  have ⟨n1, n2, p1, p2⟩ : s ≤ now ∧ now ≤ 1000000 ∧ 0 ≤ p ∧ p ≤ 64 := by simpa [okB] using ho
  clear hc ho
  by_cases hm : d + p ≤ 256000000
  · by_cases ht : 16 ≤ now - s
    · have q1 : 0 ≤ (d + p) * 256 / (now - s) := Int.ediv_nonneg (by omega) (by omega)
      have q2 : (d + p) * 256 / (now - s) ≤ (d + p) * 256 := Int.ediv_le_self _ (by omega)
      go_enter Try.func18, Try.ntmps18
      go_wp2
      go_region
      all_goals go_wp2
      all_goals go_end0
      all_goals refine ⟨rfl, by (repeat (with_reducible first | exact World.grownBy.refl _ _ | apply gb_drew | apply gb_set)), ?_, ?_, ?_⟩
      all_goals (go_simp; first | (simp only [nAvg, if_pos ht, Int.min_eq_left hm]; omega) | simp [nStamp, ht] | simp [nDone, ht])
    · go_enter Try.func18, Try.ntmps18
      go_wp2
      (first | go_end0 | refine bodyPost_ret (results_none rfl _ _ _) rfl ?_)
      refine ⟨rfl, by (repeat (with_reducible first | exact World.grownBy.refl _ _ | apply gb_drew | apply gb_set)), ?_, ?_, ?_⟩
      all_goals (go_simp; first | (simp only [nAvg, if_neg (show ¬ 16 ≤ now - s by omega)]) | simp only [nStamp, if_neg (show ¬ 16 ≤ now - s by omega)] | simp only [nDone, if_neg (show ¬ 16 ≤ now - s by omega), Int.min_eq_left hm])
  · have hm' : 256000000 < d + p := by omega
    by_cases ht : 16 ≤ now - s
    · have q1 : 0 ≤ (65536000000 : Int) / (now - s) := Int.ediv_nonneg (by omega) (by omega)
      have q2 : (65536000000 : Int) / (now - s) ≤ 65536000000 := Int.ediv_le_self _ (by omega)
      go_enter Try.func18, Try.ntmps18
      go_wp2
      go_region
      all_goals go_wp2
      all_goals go_end0
      all_goals refine ⟨rfl, by (repeat (with_reducible first | exact World.grownBy.refl _ _ | apply gb_drew | apply gb_set)), ?_, ?_, ?_⟩
      all_goals (go_simp; first | (simp only [nAvg, if_pos ht, Int.min_eq_right (Int.le_of_lt hm'), Int.reduceMul]; omega) | simp [nStamp, ht] | simp [nDone, ht])
    · go_enter Try.func18, Try.ntmps18
      go_wp2
      (first | go_end0 | refine bodyPost_ret (results_none rfl _ _ _) rfl ?_)
      refine ⟨rfl, by (repeat (with_reducible first | exact World.grownBy.refl _ _ | apply gb_drew | apply gb_set)), ?_, ?_, ?_⟩
      all_goals (go_simp; first | (simp only [nAvg, if_neg (show ¬ 16 ≤ now - s by omega)]) | simp only [nStamp, if_neg (show ¬ 16 ≤ now - s by omega)] | simp only [nDone, if_neg (show ¬ 16 ≤ now - s by omega), Int.min_eq_right (Int.le_of_lt hm')])

end Go.Proofs.Ytiknpncnmdonfaa
