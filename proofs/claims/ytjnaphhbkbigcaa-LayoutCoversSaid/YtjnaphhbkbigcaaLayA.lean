/-
  The law's same and its sanity check, by contracts.
-/
import Derived.Test.YtjnaphhbkbigcaaLay9
import Derived.Test.YtjnaphhbkbigcaaLay5
namespace Go.Proofs.Ytjnaphhbkbigcaa
open Go.RowKit
set_option linter.unusedVariables false
set_option linter.unusedSimpArgs false

set_option maxHeartbeats 1000000 in
theorem same_w (va vb : Value) (l : List Sp) (w : World) (ha : SpA w va l) (hb : SpA w vb l) : Calls Try.prog 19 #[va, vb] w (RetB true w) := by
  obtain ⟨A, ca, rfl, hm, hA⟩ := ha
  obtain ⟨B, cb, rfl, _, hB⟩ := hb
  unfold maxLen at hm
  have HA := Lib.hid hA
  have HB := Lib.hid hB
  clear hA hB
  go_enter Try.func19, Try.ntmps19
  go_wp2
  go_loopw [5] (fun s5 wx => ∃ k : Nat, k ≤ l.length ∧ s5 = .int .i64 k ∧ SpR wx A l ∧ SpR wx B l ∧ Below w.heap.size w wx) (fun s5 _ => l.length - (intOf s5).toNat)
  case atStart => exact ⟨0, by omega, rfl, HA.out, HB.out, Below.refl _ _⟩
  case round =>
    clear HA HB
    obtain ⟨k, hk, rfl, hA, hB, hW⟩ := hrel
    have HA := Lib.hid hA
    have HB := Lib.hid hB
    clear hA hB
    by_cases hlt : k < l.length
    · obtain ⟨b, s, c, rfl, lb, he, a0, a1⟩ := HA.out.at_ hlt
      obtain ⟨b', s', c', rfl, lb', he', b0, b1⟩ := HB.out.at_ hlt
      rw [he] at he'
      simp only [Option.some.injEq, Prod.mk.injEq] at he'
      obtain ⟨rfl, rfl⟩ := he'
      have z0 : (0 : Int) ≤ (k : Int) := by omega
      have z1 : (k : Int) < (l.length : Int) := by omega
      clear he
      go_upto_region 6 with fail
      go_quiet (fail)
      go_wp2
      go_roundw
      case rel => exact ⟨k + 1, by omega, by go_num, HA.out.drewN _, HB.out.drewN _, below_drewN hW _⟩
      case measure => simp [intOf]; omega
    · obtain rfl : k = l.length := by omega
      go_wp2
      go_ret
      exact ⟨rfl, hW⟩

theorem runs_ex : runsP 0 [3, 1, 2] 4 = [(4, 4), (8, 2)] := by decide
theorem split_ex : splitP 3 [(4, 4), (8, 2)] = [(4, 3), (7, 1), (8, 2)] := by decide
set_option maxHeartbeats 1000000 in
theorem awake_w (w : World) : Calls Try.prog 17 #[] w (RetB true w) := by
  have ho := fun w => owner_w 20 w (by omega)
  rw [show ownA 20 = 1 by decide, show ownB 20 = 0 by decide] at ho
  have hs := fun w => slots_w 128 w
  rw [slots_max] at hs
  have hi := fun w => ino_w 1 1 w
  rw [show inoP 1 1 = 19 by decide] at hi
  have hp := fun w => pg_w 1 0 w
  rw [show pgP 1 0 = 20 by decide] at hp
  have hz : ∀ w : World, ZA (w.alloc (.cells #[.int .i64 3, .int .i64 1, .int .i64 2] 3)) (some ⟨w.heap.size, 0, none⟩) [3, 1, 2] := fun w => .inr ⟨_, 0, rfl, by simp, fun i z hi => by
    have hc := cells_at (heap_alloc_at w (.cells #[.int .i64 3, .int .i64 1, .int .i64 2] 3)) (0 + i)
    rw [hc]
    match i with
    | 0 => simp at hi; subst hi; rfl
    | 1 => simp at hi; subst hi; rfl
    | 2 => simp at hi; subst hi; rfl
    | i + 3 => simp at hi⟩
  have hr : ∀ w : World, Calls Try.prog 20 #[.int .i64 0, .slice (some ⟨w.heap.size, 0, none⟩) 3 3, .int .i64 4] (w.alloc (.cells #[.int .i64 3, .int .i64 1, .int .i64 2] 3)) (RetSp [(4, 4), (8, 2)] (w.alloc (.cells #[.int .i64 3, .int .i64 1, .int .i64 2] 3))) := fun w => by
    have := runs_w 0 4 (some ⟨w.heap.size, 0, none⟩) [3, 1, 2] 3 _ (hz w) (by simp)
    rw [runs_ex] at this
    exact this
  clear hz
  go_enter Try.func17, Try.ntmps17
  go_upto_region 3 with (first
    | (go_at_call 9; (with_reducible refine Calls.mono (ho _) ?_); rintro e w1 ⟨rfl, rfl⟩)
    | (go_at_call 20; (with_reducible refine Calls.mono (hr _) ?_); rintro e w2 ⟨v, rfl, hv, hb⟩))
  obtain ⟨A, cap, rfl, _, hR⟩ := hv
  obtain ⟨b, s, c, rfl, lb, he, c0, c1⟩ := hR.at_ (i := 0) (by simp)
  simp only [List.getElem?_cons_zero, Option.some.injEq, Prod.mk.injEq] at he
  obtain ⟨rfl, rfl⟩ := he
  have hsp := fun w' (h : SpR w' (some ⟨b, 0, none⟩) [(4, 4), (8, 2)]) => split_w (.slice (some ⟨b, 0, none⟩) 2 cap) [(4, 4), (8, 2)] 3 w' ⟨_, cap, rfl, by simp; decide, h⟩ (by simp)
  rw [split_ex] at hsp
  have HR := Lib.hid hR
  have HB := Lib.hid (bl_step ((Below.refl _ _).alloc (Nat.le_refl _) _) hb)
  clear hR hb hr
  go_wp2_with (first
    | (go_at_call 11; (with_reducible refine Calls.mono (hs _) ?_); rintro e w3 ⟨rfl, rfl⟩)
    | (go_at_call 13; (with_reducible refine Calls.mono (hi _) ?_); rintro e w3 ⟨rfl, rfl⟩)
    | (go_at_call 15; (with_reducible refine Calls.mono (hp _) ?_); rintro e w3 ⟨rfl, rfl⟩)
    | (go_at_call 22; (with_reducible refine Calls.mono (hsp _ HR.out) ?_); rintro e w3 ⟨v3, rfl, ⟨A3, cap3, rfl, _, _⟩, hb3⟩))
  go_ret
  exact ⟨rfl, bl_step HB.out hb3⟩

end Go.Proofs.Ytjnaphhbkbigcaa
