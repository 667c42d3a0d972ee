/-
  The reference's Owner, by contract; the law's sanity check is not here.
-/
import Derived.Test.YtjnaphhbkbigcaaLay1
namespace Go.Proofs.Ytjnaphhbkbigcaa
open Go.RowKit
set_option linter.unusedVariables false
set_option linter.unusedSimpArgs false

set_option maxHeartbeats 1000000 in
theorem rOwner_w (n : Int) (w : World) : Calls Try.prog 10 #[.int .i64 n] w (RetE (.tuple #[.int .i64 (ownA n), .int .i64 (ownB n)]) w) := by
  have hs := fun w => rSlots_w 128 w
  rw [slots_max] at hs
  have hi := fun s k w => rIno_w s k w
  have hp := fun s k w => rPg_w s k w
  go_enter Try.func10, Try.ntmps10
  go_wp2
  go_loop [4] (fun s4 => ∃ s : Nat, s ≤ 7 ∧ s4 = .int .i64 s ∧ (n < 0 ∨ 18 * (s : Int) ≤ n)) (fun s4 => 7 - (intOf s4).toNat)
  case atStart => exact ⟨0, by omega, rfl, by omega⟩
  case round =>
    obtain ⟨s, hs7, rfl, hn⟩ := hrel
    by_cases hlt : s < 7
    · have Hn := Lib.hid hn
      clear hn
      have s0 : (0 : Int) ≤ (s : Int) := by omega
      have s1 : (s : Int) < 7 := by omega
      go_wp2_with (go_at_call 12; (with_reducible refine Calls.mono (hs _) ?_); rintro e w1 ⟨rfl, rfl⟩)
      go_loop [5] (fun s5 => ∃ k : Nat, k ≤ 2 ∧ s5 = .int .i64 k ∧ (n < 0 ∨ 18 * (s : Int) + k ≤ n)) (fun s5 => 2 - (intOf s5).toNat)
      case atStart => exact ⟨0, by omega, rfl, by have := Hn.out; omega⟩
      case round =>
        obtain ⟨k, hk2, rfl, hn⟩ := hrel
        have Hn2 := Lib.hid hn
        clear hn
        by_cases hkl : k < 2
        · have hik := hi (s : Int) (k : Int)
          rw [show inoP (s : Int) (k : Int) = (s : Int) * 18 + k by unfold inoP; rw [if_pos (by omega)]] at hik
          have k1 : (k : Int) < 2 := by omega
          have w1 := w64 (x := -1 - (k : Int)) (by omega)
          by_cases he : n = (s : Int) * 18 + k
          · have eb : (n == (s : Int) * 18 + k) = true := by simp [he]
            have HA := Lib.hid (show ownA n = s by unfold ownA; rw [if_neg (by omega)]; omega)
            have HB := Lib.hid (show ownB n = -1 - k by unfold ownB; rw [if_neg (by omega), if_pos (by omega)]; omega)
            clear he
            go_wp2_with (go_at_call 14; (with_reducible refine Calls.mono (hik _) ?_); rintro e w1 ⟨rfl, rfl⟩)
            go_ret2
            exact ⟨by rw [HA.out, HB.out]; rfl, rfl⟩
          · have eb : (n == (s : Int) * 18 + k) = false := by simp [he]
            have HN := Lib.hid (show n < 0 ∨ 18 * (s : Int) + ((k + 1 : Nat) : Int) ≤ n by have := Hn2.out; omega)
            clear he
            go_wp2_with (go_at_call 14; (with_reducible refine Calls.mono (hik _) ?_); rintro e w1 ⟨rfl, rfl⟩)
            go_round
            case rel => exact ⟨k + 1, by omega, by go_num, HN.out⟩
            case measure => simp [intOf]; omega
        · have k2 : k = 2 := by omega
          subst k2
          go_wp2
          go_loop [6] (fun s6 => ∃ p : Nat, p ≤ 8 ∧ s6 = .int .i64 p ∧ (n < 0 ∨ 18 * (s : Int) + 2 + 2 * p ≤ n)) (fun s6 => 8 - (intOf s6).toNat)
          case atStart => exact ⟨0, by omega, rfl, by have := Hn2.out; omega⟩
          case round =>
            obtain ⟨p, hp8, rfl, hn⟩ := hrel
            have Hn3 := Lib.hid hn
            clear hn
            by_cases hpl : p < 8
            · have p1 : (p : Int) < 8 := by omega
              go_wp2
              go_loop [7] (fun s7 => ∃ k : Nat, k ≤ 2 ∧ s7 = .int .i64 k ∧ (n < 0 ∨ 18 * (s : Int) + 2 + 2 * p + k ≤ n)) (fun s7 => 2 - (intOf s7).toNat)
              case atStart => exact ⟨0, by omega, rfl, by have := Hn3.out; omega⟩
              case round =>
                obtain ⟨k, hk2, rfl, hn⟩ := hrel
                have Hn4 := Lib.hid hn
                clear hn
                by_cases hkl : k < 2
                · have hpk := hp (s : Int) (p : Int)
                  rw [show pgP (s : Int) (p : Int) = (s : Int) * 18 + 2 + p * 2 by unfold pgP; rw [if_pos (by omega)]] at hpk
                  have k1 : (k : Int) < 2 := by omega
                  have w1 := w64 (x := (s : Int) * 18 + 2 + p * 2 + k) (by omega)
                  by_cases he : n = (s : Int) * 18 + 2 + p * 2 + k
                  · have eb : (n == (s : Int) * 18 + 2 + p * 2 + k) = true := by simp [he]
                    have HA := Lib.hid (show ownA n = s by unfold ownA; rw [if_neg (by omega)]; omega)
                    have HB := Lib.hid (show ownB n = p by unfold ownB; rw [if_neg (by omega), if_neg (by omega)]; omega)
                    clear he
                    go_wp2_with (go_at_call 16; (with_reducible refine Calls.mono (hpk _) ?_); rintro e w1 ⟨rfl, rfl⟩)
                    go_ret2
                    exact ⟨by rw [HA.out, HB.out]; rfl, rfl⟩
                  · have eb : (n == (s : Int) * 18 + 2 + p * 2 + k) = false := by simp [he]
                    have HN := Lib.hid (show n < 0 ∨ 18 * (s : Int) + 2 + 2 * p + ((k + 1 : Nat) : Int) ≤ n by have := Hn4.out; omega)
                    clear he
                    go_wp2_with (go_at_call 16; (with_reducible refine Calls.mono (hpk _) ?_); rintro e w1 ⟨rfl, rfl⟩)
                    go_round
                    case rel => exact ⟨k + 1, by omega, by go_num, HN.out⟩
                    case measure => simp [intOf]; omega
                · have HN := Lib.hid (show n < 0 ∨ 18 * (s : Int) + 2 + 2 * ((p + 1 : Nat) : Int) ≤ n by have := Hn4.out; omega)
                  go_wp2
                  go_round
                  case rel => exact ⟨p + 1, by omega, by go_num, HN.out⟩
                  case measure => simp [intOf]; omega
            · have HN := Lib.hid (show n < 0 ∨ 18 * ((s + 1 : Nat) : Int) ≤ n by have := Hn3.out; omega)
              go_wp2
              go_round
              case rel => exact ⟨s + 1, by omega, by go_num, HN.out⟩
              case measure => simp [intOf]; omega
    · have s7 : s = 7 := by omega
      subst s7
      have HA := Lib.hid (show ownA n = -1 by unfold ownA; rw [if_pos (by omega)])
      have HB := Lib.hid (show ownB n = 0 by unfold ownB; rw [if_pos (by omega)])
      clear hn
      go_wp2_with (go_at_call 12; (with_reducible refine Calls.mono (hs _) ?_); rintro e w1 ⟨rfl, rfl⟩)
      go_ret2
      exact ⟨by rw [HA.out, HB.out]; rfl, rfl⟩

end Go.Proofs.Ytjnaphhbkbigcaa
