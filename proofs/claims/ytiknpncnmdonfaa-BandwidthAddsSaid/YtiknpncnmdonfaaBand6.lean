/-
  The law BandwidthAdds returns true for every list of numbers, and what was in memory before the call is as it was.
-/
import Derived.Test.YtiknpncnmdonfaaMeas
namespace Go.Proofs.Ytiknpncnmdonfaa
open Go.RowKit
set_option linter.unusedVariables false

/-- The state of the law: the tape in block tb, the measures m and one in blocks mb and ob. -/
def St2 (W : World) (tb mb ob : Nat) (x y s : Int) (w : World) : Prop := St W tb mb x y 0 w ∧ MAt w ob x y s ∧ mb < ob
theorem St2.step {W w w' : World} {tb mb ob : Nat} {x y s : Int} (h : St2 W tb mb ob x y s w) (hb : Below w.heap.size w w') : St2 W tb mb ob x y s w' := ⟨h.1.step hb, h.2.1.step hb, h.2.2⟩
theorem St2.alloc {W w : World} {tb mb ob : Nat} {x y s : Int} (h : St2 W tb mb ob x y s w) (o : Obj) : St2 W tb mb ob x y s (w.alloc o) := ⟨h.1.alloc o, h.2.1.alloc o, h.2.2⟩
theorem St2.drew {W w : World} {tb mb ob : Nat} {x y s : Int} (h : St2 W tb mb ob x y s w) : St2 W tb mb ob x y s w.drew := ⟨h.1.drew, h.2.1, h.2.2⟩
theorem St2.put {W w : World} {tb mb ob : Nat} {x y s : Int} (h : St2 W tb mb ob x y s w) (u : Int) :
    St2 W tb mb ob x y u (((w.setCell ⟨ob, 0, none⟩ (.int .i64 x)).setCell ⟨ob, 1, none⟩ (.int .i64 y)).setCell ⟨ob, 2, none⟩ (.int .i64 u)) := by
  have hm : ∀ (w : World) (p : Addr) (v : Value), p.block = ob → MAt w mb x y 0 → MAt (w.setCell p v) mb x y 0 := fun w p v hp hM => hM.kept (grownBy_setCell w p v) (by have := h.2.2; omega)
  have ht : tb < ob := Nat.lt_trans h.1.2.2 h.2.2
  refine ⟨⟨((h.1.1.set ⟨ob, 0, none⟩ _ ht).set ⟨ob, 1, none⟩ _ ht).set ⟨ob, 2, none⟩ _ ht, hm _ _ _ rfl (hm _ _ _ rfl (hm _ _ _ rfl h.1.2.1)), h.1.2.2⟩, ((h.2.1.set0 x).set1 y).set2 u, h.2.2⟩
theorem St2.two {W w : World} {tb mb ob : Nat} {x y s : Int} (h : St2 W tb mb ob x y s w) : w.cell? ⟨mb, 1, none⟩ = some (.int .i64 y) ∧ St2 W tb mb ob x y s w := ⟨h.1.2.1.cells.2.1, h⟩

def Drew2 (n : Int) (W : World) (tb mb ob : Nat) (x y s : Int) (e : Ending) (w' : World) : Prop := ∃ v, e = .returned (.int .i64 v) ∧ 0 ≤ v ∧ v < n ∧ St2 W tb mb ob x y s w'
theorem next_2 (n : Int) (W w : World) (tb mb ob : Nat) (x y s : Int) (h1n : 1 ≤ n) (h2n : n ≤ 9223372036854775807) (h : St2 W tb mb ob x y s w) :
    Calls Try.prog 6 #[.pointer (some ⟨tb, 0, none⟩), .int .i64 n] w (Drew2 n W tb mb ob x y s) := by
  refine (next_t n W w tb h1n h2n h.1.1).mono ?_
  rintro e w' ⟨v, rfl, h0, h1, hT, hg⟩
  have a1 := h.1.2.2
  have a2 := h.2.2
  exact ⟨v, rfl, h0, h1, ⟨hT, h.1.2.1.kept hg (by omega), h.1.2.2⟩, h.2.1.kept hg (by omega), h.2.2⟩

/-- Notes within a period add up; behind it they count as one. -/
theorem add_in {x y s at_ k : Int} (hx : 0 ≤ x ∧ x < 1000) (hy : 0 ≤ y ∧ y < 50) (hs : 0 ≤ s ∧ s ≤ 45) (h1 : y ≤ at_) (h2 : at_ ≤ y + 15) (hk : 0 ≤ k ∧ k < 10) :
    xA x y s at_ k = x ∧ xS x y s at_ k = y ∧ xD x y s at_ k = s + k ∧ xE x y s at_ k = 0 := by
  have c1 : chB x y s = true := by simp [chB]; omega
  have c2 : okB y at_ k = true := by simp [okB]; omega
  have c3 : ¬ 16 ≤ at_ - y := by omega
  have c4 : min (s + k) 256000000 = s + k := by omega
  simp only [xA, xS, xD, xE, c1, c2, and_self, if_true, nAvg, nStamp, nDone, if_neg c3, c4]
theorem add_end {x y s e : Int} (hx : 0 ≤ x ∧ x < 1000) (hy : 0 ≤ y ∧ y < 50) (hs : 0 ≤ s ∧ s ≤ 45) (h1 : y + 16 ≤ e) (h2 : e ≤ y + 25) :
    xA x y s e 0 = xA x y 0 e s ∧ xS x y s e 0 = xS x y 0 e s ∧ xD x y s e 0 = xD x y 0 e s ∧ xE x y s e 0 = 0 ∧ xE x y 0 e s = 0 := by
  have c1 : chB x y s = true := by simp [chB]; omega
  have c1' : chB x y 0 = true := by simp [chB]; omega
  have c2 : okB y e 0 = true := by simp [okB]; omega
  have c2' : okB y e s = true := by simp [okB]; omega
  have c3 : 16 ≤ e - y := by omega
  simp only [xA, xS, xD, xE, c1, c2, c1', c2', and_self, if_true, nAvg, nStamp, nDone, if_pos c3, Int.add_zero, Int.zero_add]

set_option maxRecDepth 100000 in
set_option maxHeartbeats 2000000 in
theorem bandwidthAdds_walk (a0 : Option Addr) (len0 cap0 : Nat) (z0 : List Int) (w : World) (w0 : IsRow .i64 w a0 len0 cap0 z0) :
    Calls Try.prog 5 #[.slice a0 len0 cap0] w fun e w' => e = .returned (.bool true) ∧ Below w.heap.size w w' := by
  have hT0 := Tp.start w0
  clear w0
  go_enter Try.func5, Try.ntmps5
  go_upto_region 2 with fail
  go_cut [4] (fun s4 wx => ∃ mb x y, s4 = .pointer (some ⟨mb, 0, none⟩) ∧ 0 ≤ x ∧ x < 1000 ∧ 0 ≤ y ∧ y < 50 ∧ St w w.heap.size mb x y 0 wx)
  case first =>
    go_wp2_with (first | (go_at_call 6; refine (next_t _ _ _ _ (by omega) (by omega) (by (repeat (with_reducible first | assumption | refine Tp.alloc ?_ _ | refine Tp.drew ?_ | refine Tp.drewN ?_ _ | (apply Tp.step2; assumption))))).mono ?_; rintro e w1 ⟨x, rfl, h0, h1, hT, hg⟩; obtain ⟨hc, hf, s1, s2, s3, s4, s5, s6, s7⟩ := keptG hg))
    go_meet
    case rel => exact ⟨_, _, _, rfl, by assumption, by assumption, by assumption, by assumption, hT.alloc _, MAt.new _ _ _ _, hT.lt⟩
  case rest =>
    obtain ⟨mb, x, y, rfl, xl, xh, yl, yh, hS⟩ := hcut
    clear hT0
    go_upto_region 3 with fail
    go_cut [5, 6, 7] (fun s5 s6 s7 wx => ∃ ob, s5 = .pointer (some ⟨ob, 0, none⟩) ∧ s6 = .int .i64 0 ∧ s7 = .int .i64 y ∧ St2 w w.heap.size mb ob x y 0 wx)
    case first =>
      obtain ⟨m0, m1, m2, g0, g1, g2, gz⟩ := hS.2.1.cells
      go_region
      all_goals go_wp2
      all_goals go_meet
      all_goals case rel => exact ⟨_, rfl, rfl, rfl, (hS.alloc _).drew, MAt.new _ _ _ _, gz⟩
    case rest =>
      clear hS
      obtain ⟨ob, rfl, rfl, rfl, hS⟩ := hcut
      go_upto_region 4 with fail
      go_cut [8] (fun s8 wx => ∃ n : Nat, n ≤ 5 ∧ s8 = .int .i64 n ∧ St2 w w.heap.size mb ob x y 0 wx)
      case first =>
        go_wp2_with (go_at_call 6; refine (next_2 _ w _ _ mb ob x y 0 ?_ ?_ ?_).mono ?_; omega; omega; (repeat (with_reducible first | assumption | refine St2.alloc ?_ _ | refine St2.drew ?_)); rintro e w1 ⟨v, rfl, h0, h1, hS⟩)
        go_meet
        case rel =>
          obtain ⟨i, rfl⟩ := Int.eq_ofNat_of_zero_le h0
          exact ⟨i, by omega, rfl, hS⟩
      case rest =>
        clear hS
        obtain ⟨n0, hn0, rfl, hS⟩ := hcut
        go_wp2_with fail
        go_loopw [6, 7, 8] (fun s6 s7 s8 wr => ∃ (n : Nat) (sm at_ : Int), n ≤ 5 ∧ s8 = .int .i64 n ∧ s6 = .int .i64 sm ∧ s7 = .int .i64 at_ ∧ 0 ≤ sm ∧ sm ≤ 9 * (5 - n) ∧ y ≤ at_ ∧ at_ ≤ y + 15 ∧ St2 w w.heap.size mb ob x y sm wr) (fun _ _ i _ => (intOf i).toNat)
        case atStart => exact ⟨n0, 0, y, hn0, rfl, rfl, rfl, by omega, by omega, by omega, by omega, hS⟩
        case round =>
          clear hS
          obtain ⟨n, sm, at_, hn, rfl, rfl, rfl, s1, s2, t1, t2, hS⟩ := hrel
          by_cases hl : 0 < n
          · go_upto_region 8 with (go_at_call 6; refine (next_2 _ w _ _ mb ob x y sm ?_ ?_ ?_).mono ?_; omega; omega; (repeat (with_reducible first | assumption | refine St2.alloc ?_ _ | refine St2.drew ?_)); rintro e w1 ⟨v, rfl, h0, h1, hS⟩)
            go_cut [7] (fun s7 wx => ∃ at_, s7 = .int .i64 at_ ∧ y ≤ at_ ∧ at_ ≤ y + 15 ∧ St2 w w.heap.size mb ob x y sm wx)
            case first =>
              have w15 : IntKind.i64.wrap (y + 15) = y + 15 := IntWalk.i64_in _ (by omega)
              have hS1 := St2.two hS.drew
              have m1 := hS1.1
              go_region_held3 (fun w' => w'.cell? ⟨mb, 1, none⟩ = some (.int .i64 y) ∧ St2 w w.heap.size mb ob x y sm w') (first | (refine St2.two ?_; (repeat (with_reducible first | assumption | refine St2.alloc ?_ _ | refine St2.drew ?_))))
                (first | (go_at_call 6; refine (next_2 _ w _ _ mb ob x y sm ?_ ?_ ?_).mono ?_; omega; omega; (repeat (with_reducible first | assumption | refine St2.alloc ?_ _ | refine St2.drew ?_)); rintro e w1 ⟨v, rfl, h0, h1, hS⟩))
              all_goals go_wp2
              all_goals go_meet
              all_goals case rel =>
                have e1 := IntWalk.i64_in (at_ + v) (by omega)
                simp only [e1] at *
                exact ⟨_, rfl, by omega, by omega, hS⟩
            case rest =>
              clear hS
              obtain ⟨at2, rfl, t3, t4, hS⟩ := hcut
              obtain ⟨e1, e2, e3, e4⟩ := add_in (x := x) (y := y) (s := sm) (at_ := at2) (k := v) ⟨xl, xh⟩ ⟨yl, yh⟩ ⟨by omega, by omega⟩ t3 t4 ⟨h0, h1⟩
              obtain ⟨m0, m1, m2, g0, g1, g2, gz⟩ := hS.2.1.cells
              go_wp2_with (go_at_call 10; refine (bnote_w _ _ _ _ _ _).mono ?_; rintro e w1 ⟨rfl, hb⟩; have hS1 := hS.step hb; obtain ⟨m0, m1, m2, g0, g1, g2, gz⟩ := hS1.2.1.cells; have gy : ¬ ob = w1.heap.size := (by omega))
              go_roundw
              case rel =>
                obtain ⟨n', rfl⟩ : ∃ n', n = n' + 1 := ⟨n - 1, by omega⟩
                exact ⟨n', sm + v, at2, by omega, by go_num, rfl, rfl, by omega, by omega, t3, t4, (St2.put hS1 _).alloc _⟩
              case measure => simp [intOf]; omega
          · obtain rfl : n = 0 := by omega
            go_upto_region 13 with fail
            go_cut [12] (fun s12 wx => ∃ ed, s12 = .int .i64 ed ∧ y + 16 ≤ ed ∧ ed ≤ y + 25 ∧ St2 w w.heap.size mb ob x y sm wx)
            case first =>
              have w15 : IntKind.i64.wrap (y + 16) = y + 16 := IntWalk.i64_in _ (by omega)
              have hS1 := St2.two hS.drew
              have m1 := hS1.1
              go_region_held3 (fun w' => w'.cell? ⟨mb, 1, none⟩ = some (.int .i64 y) ∧ St2 w w.heap.size mb ob x y sm w') (first | (refine St2.two ?_; (repeat (with_reducible first | assumption | refine St2.alloc ?_ _ | refine St2.drew ?_))))
                (first | (go_at_call 6; refine (next_2 _ w _ _ mb ob x y sm ?_ ?_ ?_).mono ?_; omega; omega; (repeat (with_reducible first | assumption | refine St2.alloc ?_ _ | refine St2.drew ?_)); rintro e w1 ⟨v, rfl, h0, h1, hS⟩))
              all_goals go_wp2
              all_goals go_meet
              all_goals case rel =>
                have e1 := IntWalk.i64_in (y + 16 + v) (by omega)
                simp only [e1] at *
                exact ⟨_, rfl, by omega, by omega, hS⟩
            case rest =>
              clear hS
              obtain ⟨ed, rfl, t3, t4, hS⟩ := hcut
              obtain ⟨e1, e2, e3, e4, e5⟩ := add_end (x := x) (y := y) (s := sm) (e := ed) ⟨xl, xh⟩ ⟨yl, yh⟩ ⟨by omega, by omega⟩ t3 t4
              go_upto_region 14 with fail
              go_cut [13, 14] (fun s7 s8 wx => ∃ b, s7 = .pointer (some ⟨b, 0, none⟩) ∧ s8 = .int .i64 0 ∧ MAt wx b (xA x y 0 ed sm) (xS x y 0 ed sm) (xD x y 0 ed sm) ∧ St2 w w.heap.size mb ob x y sm wx)
              case first =>
                obtain ⟨m0, m1, m2, g0, g1, g2, gz⟩ := hS.2.1.cells
                go_wp2_with (go_at_call 10; refine (bnote_w _ _ _ _ _ _).mono ?_; rintro e w1 ⟨rfl, hb⟩)
                go_meet
                case rel => exact ⟨_, rfl, rfl, MAt.new _ _ _ _, (hS.step hb).alloc _⟩
              case rest =>
                clear hS
                obtain ⟨b1, rfl, rfl, M1, hS⟩ := hcut
                go_upto_region 15 with fail
                go_cut [15, 16] (fun s7 s8 wx => ∃ b, s7 = .pointer (some ⟨b, 0, none⟩) ∧ s8 = .int .i64 0 ∧ MAt wx b (xA x y 0 ed sm) (xS x y 0 ed sm) (xD x y 0 ed sm) ∧ MAt wx b1 (xA x y 0 ed sm) (xS x y 0 ed sm) (xD x y 0 ed sm) ∧ Below w.heap.size w wx)
                case first =>
                  obtain ⟨m0, m1, m2, g0, g1, g2, gz⟩ := hS.1.2.1.cells
                  have bel := hS.1.1.below
                  go_wp2_with (go_at_call 10; refine (bnote_w _ _ _ _ _ _).mono ?_; rintro e w1 ⟨rfl, hb⟩)
                  go_meet
                  case rel => exact ⟨_, rfl, rfl, MAt.new _ _ _ _, (M1.step hb).alloc _, by (repeat (with_reducible first | assumption | exact Below.refl _ _ | refine bl_alloc ?_ _ | apply Below.drew | refine below_drewN ?_ _ | (apply bl_step2; assumption) | (refine Below.setCell ?_ (Nat.le_refl _) _) | (refine Below.setCell ?_ (by first | omega | (simp; done) | (go_simp; done)) _)))⟩
                case rest =>
                  clear hS M1
                  obtain ⟨b2, rfl, rfl, M2, M1, bel⟩ := hcut
                  obtain ⟨m0, m1, m2, g0, g1, g2, gz⟩ := M1.cells
                  obtain ⟨m3, m4, m5, _, _, _, gz'⟩ := M2.cells
                  go_wp2_with (go_at_call 16; refine (awake_w _).mono ?_; rintro e w1 ⟨rfl, hb⟩)
                  go_ret
                  exact ⟨rfl, by (repeat (with_reducible first | assumption | exact Below.refl _ _ | refine bl_alloc ?_ _ | apply Below.drew | refine below_drewN ?_ _ | (apply bl_step2; assumption) | (refine Below.setCell ?_ (Nat.le_refl _) _) | (refine Below.setCell ?_ (by first | omega | (simp; done) | (go_simp; done)) _)))⟩

end Go.Proofs.Ytiknpncnmdonfaa
