/-
  The law BandwidthCalls returns true for every list of numbers, and what was in memory before the call is as it was.
-/
import Derived.Test.YtiknpncnmdonfaaMeas
namespace Go.Proofs.Ytiknpncnmdonfaa
open Go.RowKit
set_option linter.unusedVariables false

set_option maxRecDepth 100000 in
set_option maxHeartbeats 2000000 in
theorem bandwidthCalls_walk (a0 : Option Addr) (len0 cap0 : Nat) (z0 : List Int) (w : World) (w0 : IsRow .i64 w a0 len0 cap0 z0) :
    Calls Try.prog 3 #[.slice a0 len0 cap0] w fun e w' => e = .returned (.bool true) ∧ Below w.heap.size w w' := by
  have hT0 := Tp.start w0
  clear w0
  go_enter Try.func3, Try.ntmps3
  go_upto_region 2 with fail
  go_cut [4] (fun s4 wx => ∃ mb x y z, s4 = .pointer (some ⟨mb, 0, none⟩) ∧ St w w.heap.size mb x y z wx)
  case first =>
    go_wp2_with (first | (go_at_call 6; refine (next_t _ _ _ _ (by omega) (by omega) (by (repeat (with_reducible first | assumption | refine Tp.alloc ?_ _ | refine Tp.drew ?_ | refine Tp.drewN ?_ _ | (apply Tp.step2; assumption))))).mono ?_; rintro e w1 ⟨x, rfl, h0, h1, hT, hg⟩; obtain ⟨hc, hf, s1, s2, s3, s4, s5, s6, s7⟩ := keptG hg))
    go_meet
    case rel => exact ⟨_, _, _, _, rfl, hT.alloc _, MAt.new _ _ _ _, hT.lt⟩
  case rest =>
    obtain ⟨mb, x, y, z, rfl, hS⟩ := hcut
    clear hT0
    go_upto_block 0 with (first | (go_at_call 6; refine (next_s _ _ _ _ _ _ _ _ (by omega) (by omega) (by (repeat (with_reducible first | assumption | refine St.alloc ?_ _ | refine St.drew ?_ | (apply St.step2; assumption))))).mono ?_; rintro e w1 ⟨v, rfl, h0, h1, hS⟩; obtain ⟨m0, m1, m2, g0, g1, g2, gz⟩ := hS.2.1.cells))
    go_cut [] (fun wx => ∃ x y z, St w w.heap.size mb x y z wx)
    case first =>
      go_wp2_with (first | (go_at_call 6; refine (next_s _ _ _ _ _ _ _ _ (by omega) (by omega) (by (repeat (with_reducible first | assumption | refine St.alloc ?_ _ | refine St.drew ?_ | (apply St.step2; assumption))))).mono ?_; rintro e w1 ⟨v, rfl, h0, h1, hS⟩; obtain ⟨m0, m1, m2, g0, g1, g2, gz⟩ := hS.2.1.cells) | (go_at_call 7; refine (odd_s _ _ _ _ _ _ _ (by (repeat (with_reducible first | assumption | refine St.alloc ?_ _ | refine St.drew ?_ | (apply St.step2; assumption))))).mono ?_; rintro e w1 ⟨v, rfl, h0, h1, hS⟩; obtain ⟨m0, m1, m2, g0, g1, g2, gz⟩ := hS.2.1.cells))
      · go_meet
        case rel => exact ⟨v, y, z, St.set0 hS v⟩
      · go_meet
        case rel => exact ⟨x, v, z, St.set1 hS v⟩
      · go_meet
        case rel => exact ⟨x, y, v, St.set2 hS v⟩
      · go_meet
        case rel => exact ⟨_, y, _, St.set2 (St.set0 hS _) _⟩
      · go_meet
        case rel => exact ⟨x, y, z, hS⟩
    case rest =>
      clear hS m0 m1 m2 g0 g1 g2 gz h0 h1
      obtain ⟨x, y, z, hS⟩ := hcut
      go_upto_region 12 with fail
      go_cut [5, 6] (fun s5 s6 wx => ∃ p q, s5 = .int .i64 p ∧ s6 = .int .i64 q ∧ St w w.heap.size mb x y z wx)
      case first =>
        have hS1 := St.one hS.drew
        have m1 := hS1.1
        go_region_held3 (fun w' => w'.cell? ⟨mb, 1, none⟩ = some (.int .i64 y) ∧ St w w.heap.size mb x y z w') (first | (refine St.one ?_; (repeat (with_reducible first | assumption | refine St.alloc ?_ _ | refine St.drew ?_ | (apply St.step2; assumption)))))
          (first | (go_at_call 6; refine (next_s _ w _ _ mb x y z ?_ ?_ ?_).mono ?_; omega; omega; (repeat (with_reducible first | assumption | refine St.alloc ?_ _ | refine St.drew ?_ | (apply St.step2; assumption))); rintro e w1 ⟨v, rfl, h0, h1, hS⟩; obtain ⟨m0, m1, m2, g0, g1, g2, gz⟩ := hS.2.1.cells))
        all_goals go_wp2
        all_goals go_meet
        all_goals case rel => exact ⟨_, _, rfl, rfl, hS⟩
      case rest =>
        obtain ⟨p, q, rfl, rfl, hS⟩ := hcut
        go_upto_if 63 with (first | (go_at_call 6; refine (next_s _ _ _ _ _ _ _ _ (by omega) (by omega) (by (repeat (with_reducible first | assumption | refine St.alloc ?_ _ | refine St.drew ?_ | (apply St.step2; assumption))))).mono ?_; rintro e w1 ⟨v, rfl, h0, h1, hS⟩; obtain ⟨m0, m1, m2, g0, g1, g2, gz⟩ := hS.2.1.cells))
        go_cut [5, 6] (fun s5 s6 wx => ∃ p q, s5 = .int .i64 p ∧ s6 = .int .i64 q ∧ St w w.heap.size mb x y z wx)
        case first =>
          go_wp2_with (first | (go_at_call 7; refine (odd_s _ _ _ _ _ _ _ (by (repeat (with_reducible first | assumption | refine St.alloc ?_ _ | refine St.drew ?_ | (apply St.step2; assumption))))).mono ?_; rintro e w1 ⟨v, rfl, h0, h1, hS⟩; obtain ⟨m0, m1, m2, g0, g1, g2, gz⟩ := hS.2.1.cells))
          all_goals go_meet
          all_goals case rel => exact ⟨_, _, rfl, rfl, hS⟩
        case rest =>
          clear hS m0 m1 m2 g0 g1 g2 gz h0 h1
          obtain ⟨p, q, rfl, rfl, hS⟩ := hcut
          have M0 := hS.2.1
          have bel := hS.1.below
          clear hS
          go_upto_region 15 with fail
          go_cut [7, 8] (fun s7 s8 wx => ∃ b, s7 = .pointer (some ⟨b, 0, none⟩) ∧ s8 = .int .i64 (stE p) ∧ MAt wx b (stA p) (stS p) 0 ∧ MAt wx mb x y z ∧ Below w.heap.size w wx)
          case first =>
            obtain ⟨m0, m1, m2, g0, g1, g2, gz⟩ := M0.cells
            go_wp2_with (go_at_call 8; refine (start_w _ _).mono ?_; rintro e w1 ⟨rfl, hb⟩)
            go_meet
            case rel => exact ⟨_, rfl, rfl, MAt.new _ _ _ _, ((M0.step hb).alloc _), by (repeat (with_reducible first | assumption | exact Below.refl _ _ | refine bl_alloc ?_ _ | apply Below.drew | refine below_drewN ?_ _ | (apply bl_step2; assumption) | (refine Below.setCell ?_ (Nat.le_refl _) _) | (refine Below.setCell ?_ (by first | omega | (simp; done) | (go_simp; done)) _)))⟩
          case rest =>
            clear M0 bel
            obtain ⟨b0, rfl, rfl, M1, M0, bel⟩ := hcut
            go_upto_region 16 with fail
            go_cut [9, 10] (fun s7 s8 wx => ∃ b, s7 = .pointer (some ⟨b, 0, none⟩) ∧ s8 = .int .i64 (stE p) ∧ MAt wx b (stA p) (stS p) 0 ∧ MAt wx b0 (stA p) (stS p) 0 ∧ MAt wx mb x y z ∧ Below w.heap.size w wx)
            case first =>
              obtain ⟨m0, m1, m2, g0, g1, g2, gz⟩ := M0.cells
              go_wp2_with (go_at_call 9; refine (rstart_w _ _).mono ?_; rintro e w1 ⟨rfl, hb⟩)
              go_meet
              case rel => exact ⟨_, rfl, rfl, MAt.new _ _ _ _, ((M1.step hb).alloc _), ((M0.step hb).alloc _), by (repeat (with_reducible first | assumption | exact Below.refl _ _ | refine bl_alloc ?_ _ | apply Below.drew | refine below_drewN ?_ _ | (apply bl_step2; assumption) | (refine Below.setCell ?_ (Nat.le_refl _) _) | (refine Below.setCell ?_ (by first | omega | (simp; done) | (go_simp; done)) _)))⟩
            case rest =>
              clear M1 M0 bel
              obtain ⟨b1, rfl, rfl, M2, M1, M0, bel⟩ := hcut
              go_upto_region 17 with fail
              go_cut [11, 12] (fun s7 s8 wx => ∃ b, s7 = .pointer (some ⟨b, 0, none⟩) ∧ s8 = .int .i64 (xE x y z p q) ∧ MAt wx b (xA x y z p q) (xS x y z p q) (xD x y z p q) ∧ MAt wx b1 (stA p) (stS p) 0 ∧ MAt wx b0 (stA p) (stS p) 0 ∧ MAt wx mb x y z ∧ Below w.heap.size w wx)
              case first =>
                obtain ⟨m0, m1, m2, g0, g1, g2, gz⟩ := M0.cells
                go_wp2_with (go_at_call 10; refine (bnote_w _ _ _ _ _ _).mono ?_; rintro e w1 ⟨rfl, hb⟩)
                go_meet
                case rel => exact ⟨_, rfl, rfl, MAt.new _ _ _ _, ((M2.step hb).alloc _), ((M1.step hb).alloc _), ((M0.step hb).alloc _), by (repeat (with_reducible first | assumption | exact Below.refl _ _ | refine bl_alloc ?_ _ | apply Below.drew | refine below_drewN ?_ _ | (apply bl_step2; assumption) | (refine Below.setCell ?_ (Nat.le_refl _) _) | (refine Below.setCell ?_ (by first | omega | (simp; done) | (go_simp; done)) _)))⟩
              case rest =>
                clear M2 M1 M0 bel
                obtain ⟨b2, rfl, rfl, M3, M2, M1, M0, bel⟩ := hcut
                go_upto_region 18 with fail
                go_cut [13, 14] (fun s7 s8 wx => ∃ b, s7 = .pointer (some ⟨b, 0, none⟩) ∧ s8 = .int .i64 (xE x y z p q) ∧ MAt wx b (xA x y z p q) (xS x y z p q) (xD x y z p q) ∧ MAt wx b2 (xA x y z p q) (xS x y z p q) (xD x y z p q) ∧ MAt wx b1 (stA p) (stS p) 0 ∧ MAt wx b0 (stA p) (stS p) 0 ∧ MAt wx mb x y z ∧ Below w.heap.size w wx)
                case first =>
                  obtain ⟨m0, m1, m2, g0, g1, g2, gz⟩ := M0.cells
                  go_wp2_with (go_at_call 11; refine (rnote_w _ _ _ _ _ _).mono ?_; rintro e w1 ⟨rfl, hb⟩)
                  go_meet
                  case rel => exact ⟨_, rfl, rfl, MAt.new _ _ _ _, ((M3.step hb).alloc _), ((M2.step hb).alloc _), ((M1.step hb).alloc _), ((M0.step hb).alloc _), by (repeat (with_reducible first | assumption | exact Below.refl _ _ | refine bl_alloc ?_ _ | apply Below.drew | refine below_drewN ?_ _ | (apply bl_step2; assumption) | (refine Below.setCell ?_ (Nat.le_refl _) _) | (refine Below.setCell ?_ (by first | omega | (simp; done) | (go_simp; done)) _)))⟩
                case rest =>
                  clear M3 M2 M1 M0 bel
                  obtain ⟨b3, rfl, rfl, M4, M3, M2, M1, M0, bel⟩ := hcut
                  go_upto_region 19 with fail
                  obtain ⟨x0, x1, x2⟩ := M0.ext
                  obtain ⟨x3, x4, x5⟩ := M1.ext
                  obtain ⟨x6, x7, x8⟩ := M2.ext
                  obtain ⟨x9, xa, xb⟩ := M3.ext
                  obtain ⟨xc, xd, xe⟩ := M4.ext
                  clear M0 M1 M2 M3 M4
                  refine wp_region_ext (by kernel_rfl) (by kernel_rfl) ?_
                  repeat (refine wpQuiet_step (fun K hK => ?_); go_simp; first | (refine hK _ ?_; clear hK K) | (apply Exists.intro; refine ⟨fun _ => ?_, hK _ ?_⟩; (first | (go_at_call 12; exact ext_call (check_w _ _ _ _)) | (go_at_call 13; exact ext_call (rcheck_w _ _ _ _)) | (go_at_call 14; exact ext_call (brate_w _ _ _ _)) | (go_at_call 15; exact ext_call (rrate_w _ _ _ _)) | (go_at_call 16; exact ext_call (awake_w _))); clear hK K))
                  refine wpQuiet_nil ?_
                  intro w' hw'
                  obtain ⟨z, rfl⟩ := hw'
                  have bel2 := bl_step bel (below_ext wc z)
                  go_wp2
                  go_ret
                  exact ⟨rfl, bel2⟩

end Go.Proofs.Ytiknpncnmdonfaa
