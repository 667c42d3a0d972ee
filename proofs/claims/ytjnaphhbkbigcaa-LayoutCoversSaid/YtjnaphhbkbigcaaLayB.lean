/-
  The law LayoutPlaces: the walk.
-/
import Derived.Test.YtjnaphhbkbigcaaLayA
import Derived.Test.YtjnaphhbkbigcaaTape
namespace Go.Proofs.Ytjnaphhbkbigcaa
open Go.RowKit
set_option linter.unusedVariables false
set_option linter.unusedSimpArgs false

set_option maxRecDepth 100000 in
set_option maxHeartbeats 2000000 in
theorem layoutPlaces_walk (a0 : Option Addr) (len0 cap0 : Nat) (z0 : List Int) (w : World) (w0 : IsRow .i64 w a0 len0 cap0 z0) :
    Calls Try.prog 3 #[.slice a0 len0 cap0] w fun e w' => e = .returned (.bool true) ∧ Below w.heap.size w w' := by
  have HT := Lib.hid (Tp.start w0)
  clear w0
  go_enter Try.func3, Try.ntmps3
  go_wp2_with (first
    | (go_at_call 7; refine (next_t _ w _ _ (by omega) (by omega) HT.out).mono ?_; rintro e w1 ⟨x, rfl, h0, h1, hT, hg⟩; have HT2 := Lib.hid hT; clear HT hT hg; have HT := HT2; clear HT2)
    | (go_at_call 8; refine (odd_t w _ _ HT.out).mono ?_; rintro e w1 ⟨x, rfl, h0, h1, hT, hg⟩; have HT2 := Lib.hid hT; clear HT hT hg; have HT := HT2; clear HT2)
    | (go_at_call 9; refine Calls.mono (owner_w _ _ (by omega)) ?_; rintro e w1 ⟨rfl, rfl⟩)
    | (go_at_call 10; refine Calls.mono (rOwner_w _ _) ?_; rintro e w1 ⟨rfl, rfl⟩)
    | (go_at_call 11; refine Calls.mono (slots_w _ _) ?_; rintro e w1 ⟨rfl, rfl⟩)
    | (go_at_call 12; refine Calls.mono (rSlots_w _ _) ?_; rintro e w1 ⟨rfl, rfl⟩)
    | (go_at_call 13; refine Calls.mono (ino_w _ _ _) ?_; rintro e w1 ⟨rfl, rfl⟩)
    | (go_at_call 14; refine Calls.mono (rIno_w _ _ _) ?_; rintro e w1 ⟨rfl, rfl⟩)
    | (go_at_call 15; refine Calls.mono (pg_w _ _ _) ?_; rintro e w1 ⟨rfl, rfl⟩)
    | (go_at_call 16; refine Calls.mono (rPg_w _ _ _) ?_; rintro e w1 ⟨rfl, rfl⟩)
    | (go_at_call 17; (with_reducible refine Calls.mono (awake_w _) ?_); rintro e w9 ⟨rfl, hb9⟩))
  all_goals go_ret
  all_goals exact ⟨rfl, bl_step HT.out.below hb9⟩

end Go.Proofs.Ytjnaphhbkbigcaa
