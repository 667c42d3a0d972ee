/-
  The law LayoutApart: the walk.
-/
import Derived.Test.YtjnaphhbkbigcaaLayD
import Derived.Test.YtjnaphhbkbigcaaMapB
namespace Go.Proofs.Ytjnaphhbkbigcaa
open Go.RowKit
set_option linter.unusedVariables false
set_option linter.unusedSimpArgs false

/-- The numbers below n. -/
def rgI (n : Nat) : List Int := (List.range n).map (fun i : Nat => (i : Int))
theorem rgI_mem {n : Nat} {x : Int} : x ∈ rgI n ↔ 0 ≤ x ∧ x < n := by
  unfold rgI
  rw [List.mem_map]
  constructor
  · rintro ⟨i, hi, rfl⟩
    have := List.mem_range.1 hi
    omega
  · rintro ⟨h0, h1⟩
    exact ⟨x.toNat, List.mem_range.2 (by omega), by omega⟩
theorem rgI_add (n : Nat) : addK (rgI n) (n : Int) = rgI (n + 1) := by
  unfold addK
  rw [if_neg (by rw [rgI_mem]; omega)]
  unfold rgI
  rw [List.range_succ, List.map_append]
  rfl
theorem rgI_not (n : Nat) : decide ((n : Int) ∈ rgI n) = false := decide_eq_false (by rw [rgI_mem]; omega)
theorem rgI_len (n : Nat) : (rgI n).length = n := by simp [rgI]
theorem own_ino {s k : Nat} (hs : s < 7) (hk : k < 2) : ownA ((s : Int) * 18 + k) = s ∧ ownB ((s : Int) * 18 + k) = -1 - k := by
  constructor
  · unfold ownA; rw [if_neg (by omega)]; omega
  · unfold ownB; rw [if_neg (by omega), if_pos (by omega)]; omega
theorem own_pg {s p k : Nat} (hs : s < 7) (hp : p < 8) (hk : k < 2) : ownA ((s : Int) * 18 + 2 + p * 2 + k) = s ∧ ownB ((s : Int) * 18 + 2 + p * 2 + k) = p := by
  constructor
  · unfold ownA; rw [if_neg (by omega)]; omega
  · unfold ownB; rw [if_neg (by omega), if_neg (by omega)]; omega
set_option maxRecDepth 100000 in
set_option maxHeartbeats 4000000 in
theorem layoutApart_walk (by_ : Int) (w : World) :
    Calls Try.prog 5 #[.int .i64 by_] w fun e w' => e = .returned (.bool true) ∧ Below w.heap.size w w' := by
  have hmm := @run_makeMap Try.prog
  have hs := fun w => slots_w 128 w
  rw [slots_max] at hs
  obtain ⟨B, hB⟩ : ∃ B, B = w.heap.size := ⟨_, rfl⟩
  have HB := Lib.hid hB
  have HM := Lib.hid (MB.made w)
  rw [← hB] at HM
  clear hB
  go_enter Try.func5, Try.ntmps5
  go_upto_region 1 with fail
  go_cut [3] (fun s3 wx => s3 = .map (some B) ∧ MB wx B (rgI 0) ∧ Below w.heap.size w wx)
  case first =>
    go_wp2
    go_meet
    case rel => exact ⟨by rw [HB.out], HM.out, (Below.refl _ _).alloc (Nat.le_refl _) _⟩
  case rest =>
    obtain ⟨rfl, hM, hW⟩ := hcut
    clear HM hmm
    have HM := Lib.hid hM
    have HW := Lib.hid hW
    clear hM hW
    go_wp2_with (go_at_call 11; (with_reducible refine Calls.mono (hs _) ?_); rintro e w1 ⟨rfl, rfl⟩)
    go_loopw [5] (fun s5 wx => ∃ s : Nat, s ≤ 7 ∧ s5 = .int .i64 s ∧ MB wx B (rgI (s * 18)) ∧ Below w.heap.size w wx) (fun s5 _ => 7 - (intOf s5).toNat)
    case atStart => exact ⟨0, by omega, rfl, HM.out, HW.out⟩
    case round =>
      clear HM HW
      obtain ⟨s, hs7, rfl, hM, hW⟩ := hrel
      have HM := Lib.hid hM
      have HW := Lib.hid hW
      clear hM hW
      by_cases hlt : s < 7
      · have s0 : (0 : Int) ≤ (s : Int) := by omega
        have s1 : (s : Int) < 7 := by omega
        go_wp2
        go_loopw [6] (fun s6 wx => ∃ k : Nat, k ≤ 2 ∧ s6 = .int .i64 k ∧ MB wx B (rgI (s * 18 + k)) ∧ Below w.heap.size w wx) (fun s6 _ => 2 - (intOf s6).toNat)
        case atStart => exact ⟨0, by omega, rfl, HM.out, HW.out⟩
        case round =>
          clear HM HW
          obtain ⟨k, hk2, rfl, hM, hW⟩ := hrel
          have HM := Lib.hid hM
          have HW := Lib.hid hW
          clear hM hW
          by_cases hk : k < 2
          · have k1 : (k : Int) < 2 := by omega
            have hx : ((s * 18 + k : Nat) : Int) = (s : Int) * 18 + k := by omega
            have hi := fun w => ino_w (s : Int) (k : Int) w
            rw [show inoP (s : Int) (k : Int) = (s : Int) * 18 + k by unfold inoP; rw [if_pos (by omega)]] at hi
            have ho := fun w => owner_w ((s : Int) * 18 + k) w (by omega)
            rw [(own_ino hlt hk).1, (own_ino hlt hk).2] at ho
            have hn := rgI_not (s * 18 + k)
            have HA := Lib.hid (rgI_add (s * 18 + k))
            rw [hx] at hn HA
            have w1 := w64 (x := -1 - (k : Int)) (by omega)
            have x0 : ¬ (s : Int) * 18 + k < 0 := by omega
            generalize rgI (s * 18 + k) = K at HM hn HA
            clear hx
            go_wp2_with (first
              | (go_at_call 13; (with_reducible refine Calls.mono (hi _) ?_); rintro e w1 ⟨rfl, rfl⟩)
              | (go_at_call 9; (with_reducible refine Calls.mono (ho _) ?_); rintro e w1 ⟨rfl, rfl⟩)
              | (at_lookup; refine wpList_look_mb (Eq.refl true) _ _ 41 rfl 3 4 Try.underlying41 Try.underlying3 (Try.zeroValue4 _) B (K) rfl (HM.out) ((s : Int) * 18 + k) rfl ?_)
              | (at_mapUpdate; go_loud (refine wpList_store_mb rfl _ _ _ 41 rfl 3 4 Try.underlying41 Try.underlying3 B (K) rfl (HM.out) ((s : Int) * 18 + k) rfl rfl ?_); intro w4 hM4 hg4))
            go_roundw
            case rel => exact ⟨k + 1, by omega, by go_num, by rw [HA.out] at hM4; exact hM4, HW.out.grown hg4 HW.out.size (fun q hq => by injection hq with hq; have := HB.out; omega)⟩
            case measure => simp [intOf]; omega
          · obtain rfl : k = 2 := by omega
            have e2 : ((2 : Nat) : Int) = 2 := rfl
            rw [e2]
            clear e2
            go_wp2
            go_loopw [10] (fun s10 wx => ∃ p : Nat, p ≤ 8 ∧ s10 = .int .i64 p ∧ MB wx B (rgI (s * 18 + 2 + p * 2)) ∧ Below w.heap.size w wx) (fun s10 _ => 8 - (intOf s10).toNat)
            case atStart => exact ⟨0, by omega, rfl, HM.out, HW.out⟩
            case round =>
              clear HM HW
              obtain ⟨p, hp8, rfl, hM, hW⟩ := hrel
              have HM := Lib.hid hM
              have HW := Lib.hid hW
              clear hM hW
              by_cases hp : p < 8
              · have p1 : (p : Int) < 8 := by omega
                have hpg := fun w => pg_w (s : Int) (p : Int) w
                rw [show pgP (s : Int) (p : Int) = (s : Int) * 18 + 2 + p * 2 from pg_in ⟨s0, s1⟩ ⟨by omega, p1⟩] at hpg
                go_wp2_with (go_at_call 15; (with_reducible refine Calls.mono (hpg _) ?_); rintro e w1 ⟨rfl, rfl⟩)
                go_loopw [12] (fun s12 wx => ∃ k : Nat, k ≤ 2 ∧ s12 = .int .i64 k ∧ MB wx B (rgI (s * 18 + 2 + p * 2 + k)) ∧ Below w.heap.size w wx) (fun s12 _ => 2 - (intOf s12).toNat)
                case atStart => exact ⟨0, by omega, rfl, HM.out, HW.out⟩
                case round =>
                  clear HM HW
                  obtain ⟨k, hk2, rfl, hM, hW⟩ := hrel
                  have HM := Lib.hid hM
                  have HW := Lib.hid hW
                  clear hM hW
                  by_cases hk : k < 2
                  · have k1 : (k : Int) < 2 := by omega
                    have hx : ((s * 18 + 2 + p * 2 + k : Nat) : Int) = (s : Int) * 18 + 2 + p * 2 + k := by omega
                    have ho := fun w => owner_w ((s : Int) * 18 + 2 + p * 2 + k) w (by omega)
                    rw [(own_pg hlt hp hk).1, (own_pg hlt hp hk).2] at ho
                    have hn := rgI_not (s * 18 + 2 + p * 2 + k)
                    have HA := Lib.hid (rgI_add (s * 18 + 2 + p * 2 + k))
                    rw [hx] at hn HA
                    have w1 := w64 (x := (s : Int) * 18 + 2 + p * 2 + k) (by omega)
                    have x0 : ¬ (s : Int) * 18 + 2 + p * 2 < 0 := by omega
                    generalize rgI (s * 18 + 2 + p * 2 + k) = K at HM hn HA
                    clear hx
                    go_wp2_with (first
                      | (go_at_call 9; (with_reducible refine Calls.mono (ho _) ?_); rintro e w1 ⟨rfl, rfl⟩)
                      | (at_lookup; refine wpList_look_mb (Eq.refl true) _ _ 41 rfl 3 4 Try.underlying41 Try.underlying3 (Try.zeroValue4 _) B (K) rfl (HM.out) ((s : Int) * 18 + 2 + p * 2 + k) rfl ?_)
                      | (at_mapUpdate; go_loud (refine wpList_store_mb rfl _ _ _ 41 rfl 3 4 Try.underlying41 Try.underlying3 B (K) rfl (HM.out) ((s : Int) * 18 + 2 + p * 2 + k) rfl rfl ?_); intro w4 hM4 hg4))
                    go_roundw
                    case rel => exact ⟨k + 1, by omega, by go_num, by rw [HA.out] at hM4; exact hM4, HW.out.grown hg4 HW.out.size (fun q hq => by injection hq with hq; have := HB.out; omega)⟩
                    case measure => simp [intOf]; omega
                  · obtain rfl : k = 2 := by omega
                    go_wp2
                    go_roundw
                    case rel => exact ⟨p + 1, by omega, by go_num, by rw [show s * 18 + 2 + (p + 1) * 2 = s * 18 + 2 + p * 2 + 2 by omega]; exact HM.out, HW.out⟩
                    case measure => simp [intOf]; omega
              · obtain rfl : p = 8 := by omega
                go_wp2
                go_roundw
                case rel => exact ⟨s + 1, by omega, by go_num, by rw [show (s + 1) * 18 = s * 18 + 2 + 8 * 2 by omega]; exact HM.out, HW.out⟩
                case measure => simp [intOf]; omega
      · obtain rfl : s = 7 := by omega
        have hc := fun w => cut_w by_ 132 w (by omega) (by omega)
        have ⟨c0, c1⟩ := cutI_range by_ 132 (by omega)
        generalize cutI by_ 132 = y at hc c0 c1
        have hln := rgI_len (7 * 18)
        obtain ⟨x, hx⟩ : ∃ x, y - 2 = x := ⟨_, rfl⟩
        have w1 := (w64 (x := y - 2) (by omega)).trans hx
        have ho := fun w => owner_w x w (by omega)
        have hq : (ownA x == -1) = !decide (x ∈ rgI (7 * 18)) := by
          by_cases h : 0 ≤ x ∧ x < 126
          · rw [decide_eq_true (rgI_mem.2 (by omega))]
            have : ownA x ≠ -1 := by unfold ownA; rw [if_neg (by omega)]; omega
            simp [this]
          · rw [decide_eq_false (by rw [rgI_mem]; omega)]
            have : ownA x = -1 := by unfold ownA; rw [if_pos (by omega)]
            simp [this]
        generalize ownA x = oa at ho hq
        generalize ownB x = ob at ho
        generalize rgI (7 * 18) = K at HM hln hq
        clear hx
        go_wp2_with (first
          | (go_at_call 24; (with_reducible refine Calls.mono (hc _) ?_); rintro e w1 ⟨rfl, rfl⟩)
          | (go_at_call 9; (with_reducible refine Calls.mono (ho _) ?_); rintro e w1 ⟨rfl, rfl⟩)
          | (at_len; refine wpList_len_mb rfl _ 41 rfl 3 4 Try.underlying41 B K rfl HM.out ?_)
          | (at_lookup; refine wpList_look_mb (Eq.refl true) _ _ 41 rfl 3 4 Try.underlying41 Try.underlying3 (Try.zeroValue4 _) B (K) rfl (HM.out) (x) rfl ?_)
          | (go_at_call 17; (with_reducible refine Calls.mono (awake_w _) ?_); rintro e w9 ⟨rfl, hb9⟩))
        go_ret
        exact ⟨rfl, bl_step HW.out hb9⟩

end Go.Proofs.Ytjnaphhbkbigcaa
