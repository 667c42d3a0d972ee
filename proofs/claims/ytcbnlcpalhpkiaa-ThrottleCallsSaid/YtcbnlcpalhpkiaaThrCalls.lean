/-
  The law ThrottleCalls returns true for every list of numbers, and what was in memory before the call is as it was.
-/
import Derived.Test.YtcbnlcpalhpkiaaThrottle
namespace Go.Proofs.Ytcbnlcpalhpkiaa
open Go.RowKit


theorem throttleCalls_walk (a0 : Option Addr) (len0 cap0 : Nat) (z0 : List Int) (w : World) (w0 : IsRow .i64 w a0 len0 cap0 z0) :
    Calls Try.prog 3 #[.slice a0 len0 cap0] w fun e w' => e = .returned (.bool true) ∧ Below w.heap.size w w' := by
  have hT0 := Tp.start w0
  clear w0
  go_enter Try.func3, Try.ntmps3
  go_wp2_with (first | (go_at_call 6; refine (next_t _ _ _ _ (by omega) (by omega) (by assumption)).mono ?_; rintro e w' ⟨x, rfl, h0, h1, hT, hg⟩; clear hg) | (go_at_call 7; refine (odd_t _ _ _ (by assumption)).mono ?_; rintro e w' ⟨x, rfl, h0, h1, hT, hg⟩; clear hg) | (go_at_call 8; refine (free_w _ _ _).mono ?_; rintro e w' ⟨rfl, rfl⟩) | (go_at_call 9; refine (rfree_w _ _ _).mono ?_; rintro e w' ⟨rfl, rfl⟩) | (go_at_call 10; refine (position_w _ _ _).mono ?_; rintro e w' ⟨rfl, rfl⟩) | (go_at_call 11; refine (rposition_w _ _ _).mono ?_; rintro e w' ⟨rfl, rfl⟩) | (go_at_call 12; refine (pause_w _ _ _ _ _).mono ?_; rintro e w' ⟨rfl, rfl⟩) | (go_at_call 13; refine (rpause_w _ _ _ _ _).mono ?_; rintro e w' ⟨rfl, rfl⟩) | (go_at_call 14; refine (awake_w _).mono ?_; rintro e w' ⟨rfl, rfl⟩))
  all_goals go_ret
  all_goals exact ⟨rfl, Tp.below (by assumption)⟩

end Go.Proofs.Ytcbnlcpalhpkiaa
