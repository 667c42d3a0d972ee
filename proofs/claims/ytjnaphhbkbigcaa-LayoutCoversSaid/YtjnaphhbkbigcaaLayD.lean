/-
  The law LayoutRuns: the walk.
-/
import Derived.Test.YtjnaphhbkbigcaaLayC
import Derived.Deep.CutRange
namespace Go.Proofs.Ytjnaphhbkbigcaa
open Go.RowKit
set_option linter.unusedVariables false
set_option linter.unusedSimpArgs false

theorem row_step {k : IntKind} {w w' : World} {a : Option Addr} {len cap : Nat} {zs : List Int} (h : IsRow k w a len cap zs) (hb : Below w.heap.size w w') : IsRow k w' a len cap zs := by
  rcases h with h | ⟨x, e, h1, h2, h3, h4, h5⟩
  · exact .inl h
  · exact .inr ⟨x, e, h1, h2, h3, fun i hi => (hb.cell (World.block_lt_of_cell? w _ (h4 i hi))).trans (h4 i hi), h5⟩
set_option maxRecDepth 100000 in
set_option maxHeartbeats 4000000 in
theorem layoutRuns_walk (a0 : Option Addr) (len0 cap0 : Nat) (z0 : List Int) (a1 : Option Addr) (len1 cap1 : Nat) (z1 : List Int) (w : World) (w0 : IsRow .i64 w a0 len0 cap0 z0) (w1 : IsRow .i64 w a1 len1 cap1 z1) :
    Calls Try.prog 4 #[.slice a0 len0 cap0, .slice a1 len1 cap1] w fun e w' => e = .returned (.bool true) ∧ Below w.heap.size w w' := by
  have HT := Lib.hid (Tp.start w0)
  have HR1 := Lib.hid w1
  clear w0 w1
  obtain ⟨b1, hb1⟩ : ∃ b, b = w.heap.size := ⟨_, rfl⟩
  rw [← hb1] at HT
  have HB1 := Lib.hid hb1
  clear hb1
  obtain ⟨i0, hi, hz0, hz1, hz2⟩ := info_parts sp_info
  go_enter Try.func4, Try.ntmps4
  go_upto_region 1 with fail
  go_cut [5] (fun s5 wx => s5 = .pointer (some ⟨b1, 0, none⟩) ∧ Tp w b1 wx)
  case first =>
    go_wp2
    go_meet
    case rel => exact ⟨by rw [HB1.out], by rw [HB1.out] at HT ⊢; exact HT.out⟩
  case rest =>
    obtain ⟨rfl, hT⟩ := hcut
    clear HT
    have HT := Lib.hid hT
    clear hT
    go_upto_region 2 with fail
    go_cut [6, 7] (fun s6 s7 wx => ∃ s most, s6 = .int .i64 s ∧ s7 = .int .i64 most ∧ -9223372036854775808 ≤ most ∧ most ≤ 9223372036854775807 ∧ Tp w b1 wx)
    case first =>
      go_wp2_with (go_at_call 7; refine (next_t _ w _ _ (by omega) (by omega) HT.out).mono ?_; rintro e w1 ⟨x, rfl, h0, h1, hT, hg⟩; have HT2 := Lib.hid hT; clear HT hT hg; have HT := HT2; clear HT2)
      go_meet
      case rel => exact ⟨_, _, rfl, rfl, by omega, by omega, HT.out⟩
    case rest =>
      obtain ⟨s, most, rfl, rfl, m0, m1, hT⟩ := hcut
      clear HT
      have HT := Lib.hid hT
      clear hT
      go_upto_if 24 with (go_at_call 7; refine (next_t _ w _ _ (by omega) (by omega) HT.out).mono ?_; rintro e w1 ⟨x, rfl, h0, h1, hT, hg⟩; have HT2 := Lib.hid hT; clear HT hT hg; have HT := HT2; clear HT2)
      go_cut [7] (fun s7 wx => ∃ most, s7 = .int .i64 most ∧ -9223372036854775808 ≤ most ∧ most ≤ 9223372036854775807 ∧ Tp w b1 wx)
      case first =>
        go_wp2_with (go_at_call 8; refine (odd_t w _ _ HT.out).mono ?_; rintro e w1 ⟨x, rfl, h0, h1, hT, hg⟩; have HT2 := Lib.hid hT; clear HT hT hg; have HT := HT2; clear HT2)
        all_goals go_meet
        case rel => exact ⟨_, rfl, by omega, by omega, HT.out⟩
        case rel => exact ⟨_, rfl, by omega, by omega, HT.out⟩
      case rest =>
        clear m0 m1
        obtain ⟨most, rfl, m0, m1, hT⟩ := hcut
        clear HT
        have HT := Lib.hid hT
        clear hT
        go_upto_region 5 with fail
        go_cut [8] (fun s8 wx => ∃ pages, ZAs wx s8 pages ∧ pages.length ≤ 9 ∧ Tp w b1 wx)
        case first =>
          go_wp2_with (go_at_call 18; refine (ints_w w _ _ _ _ _ HT.out (by omega) (by omega) (by omega)).mono ?_; rintro e w2 ⟨v, zs, rfl, hz, hzl, _, hT⟩; have HZ := Lib.hid hz; have HT2 := Lib.hid hT; clear HT hz hT)
          go_meet
          case rel => exact ⟨zs, HZ.out, by omega, HT2.out⟩
        case rest =>
          obtain ⟨pages, hz, hpl, hT⟩ := hcut
          clear HT
          obtain ⟨A8, cap8, rfl, _, hza⟩ := hz
          obtain ⟨W, hWe⟩ : ∃ W : World, W = wc := ⟨_, rfl⟩
          subst hWe
          have HZ := Lib.hid hza
          have HB := Lib.hid hT.below
          have HT := Lib.hid (Tp.start (row_step HR1.out hT.below))
          obtain ⟨b2, hb2⟩ : ∃ b, b = W.heap.size := ⟨_, rfl⟩
          rw [← hb2] at HT
          have HB2 := Lib.hid hb2
          clear hT hza hb2
          go_upto_region 6 with fail
          go_cut [9] (fun s9 wx => s9 = .pointer (some ⟨b2, 0, none⟩) ∧ Tp W b2 wx ∧ b2 + 1 ≤ wx.heap.size)
          case first =>
            go_wp2
            go_meet
            case rel => exact ⟨by rw [HB2.out], by rw [HB2.out] at HT ⊢; exact HT.out, by rw [HB2.out]; simp⟩
          case rest =>
            obtain ⟨rfl, hT, hs⟩ := hcut
            clear HT
            have HT := Lib.hid hT
            clear hT
            have HZW := Lib.hid HZ.out
            go_upto_region 8 with fail
            go_cut [11] (fun s11 wx => ∃ k : Nat, k ≤ 4 ∧ s11 = .int .i64 k ∧ Tp W b2 wx ∧ b2 + 1 ≤ wx.heap.size)
            case first =>
              go_wp2_with (go_at_call 7; refine (next_t _ W _ _ (by omega) (by omega) HT.out).mono ?_; rintro e w1 ⟨x, rfl, h0, h1, hT, hg⟩; have HT2 := Lib.hid hT; have hs2 := hg.size; clear HT hT hg)
              go_meet
              case rel => exact ⟨x.toNat, by omega, by rw [Int.toNat_of_nonneg h0], HT2.out, by omega⟩
            case rest =>
              obtain ⟨k0, hk0, rfl, hT, hs⟩ := hcut
              clear HT
              have HT := Lib.hid hT
              clear hT
              go_wp2
              go_loopw [10, 11] (fun s10 s11 wx => ∃ (k : Nat) (spans : List Sp), s11 = .int .i64 k ∧ k + spans.length ≤ 4 ∧ wx.ownsRow (b2 + 1) 36 2 s10 spans.length (sps spans) ∧ b2 + 1 ≤ wx.heap.size ∧ Tp W b2 wx) (fun _ s11 _ => (intOf s11).toNat)
              case atStart => exact ⟨k0, [], rfl, by simp; omega, World.ownsRow_nil _ _ _ _, hs, HT.out⟩
              case round =>
                clear HT hs
                obtain ⟨k, spans, rfl, hk, hown, hs, hT⟩ := hrel
                have HT := Lib.hid hT
                have Hown := Lib.hid hown
                clear hT hown
                by_cases hlt : 0 < k
                · have k1 : (0 : Int) < (k : Int) := by omega
                  go_upto_region 11 with fail
                  go_cut [12] from 34 to 56 (fun s12 wx => ∃ (X : Nat) (p q : Int), s12 = .pointer (some ⟨X, 0, none⟩) ∧ b2 < X ∧ u10.ownBlock ≠ some X ∧ wx.heap[X]? = some (.cells #[.int .i64 p, .int .i64 q] 36 (0, 0)) ∧ wx.ownsRow (b2 + 1) 36 2 u10 spans.length (sps spans) ∧ b2 + 1 ≤ wx.heap.size ∧ Tp W b2 wx)
                  case first =>
                    go_wp2_with (go_at_call 7; refine (next_t _ W _ _ (by omega) (by omega) HT.out).mono ?_; rintro e w1 ⟨x, rfl, h0, h1, hT, hg⟩; have HT2 := Lib.hid hT; have Hown2 := Lib.hid (own_grown Hown.out hg (Nat.lt_succ_self _)); have hs2 := Nat.le_trans hs hg.size; clear HT hT hg Hown hs; have HT := HT2; have Hown := Hown2; have hs := hs2; clear HT2 Hown2 hs2)
                    go_meet
                    case rel => exact ⟨_, _, _, rfl, by omega, (fun h => by have := (Hown.out.lt _ h).2; omega), heap_alloc_new _ _, Hown.out.alloc _, by simp; omega, HT.out.alloc _⟩
                  case rest =>
                    clear HT Hown hs
                    obtain ⟨X, p, q, rfl, hX, hne, hbk, hown, hs, hT⟩ := hcut
                    have HT := Lib.hid hT
                    have Hown := Lib.hid hown
                    have HX := Lib.hid hbk
                    have Hne := Lib.hid hne
                    clear hT hown hbk hne
                    go_upto_if 47 with (go_at_call 7; refine (next_t _ W _ _ (by omega) (by omega) HT.out).mono ?_; rintro e w1 ⟨x, rfl, h0, h1, hT, hg⟩; have HT2 := Lib.hid hT; have Hown2 := Lib.hid (own_grown Hown.out hg (Nat.lt_succ_self _)); have hs2 := Nat.le_trans hs hg.size; have HX2 := Lib.hid ((hg.block X (bk_lt HX.out) (fun e => by injection e with e; omega)).trans HX.out); clear HT hT hg Hown hs HX; have HT := HT2; have Hown := Hown2; have hs := hs2; have HX := HX2; clear HT2 Hown2 hs2 HX2)
                    go_cut [] from 34 to 56 (fun wx => ∃ (p q : Int), wx.heap[X]? = some (.cells #[.int .i64 p, .int .i64 q] 36 (0, 0)) ∧ wx.ownsRow (b2 + 1) 36 2 u10 spans.length (sps spans) ∧ b2 + 1 ≤ wx.heap.size ∧ Tp W b2 wx)
                    case first =>
                      go_wp2_with (go_at_call 8; refine (odd_t W _ _ HT.out).mono ?_; rintro e w1 ⟨x, rfl, h0, h1, hT, hg⟩; have HT2 := Lib.hid hT; have Hown2 := Lib.hid (own_grown Hown.out hg (Nat.lt_succ_self _)); have hs2 := Nat.le_trans hs hg.size; have HX2 := Lib.hid ((hg.block X (bk_lt HX.out) (fun e => by injection e with e; omega)).trans HX.out); clear HT hT hg Hown hs HX; have HT := HT2; have Hown := Hown2; have hs := hs2; have HX := HX2; have f0 := free_at HX.out 0; have f1 := free_at HX.out 1; have t0 := cells_at HX.out 0; have t1 := fun v => cells_at (set_same (i := 0) HX.out v) 1; have g1 := fun v => free_at (set_same (i := 0) HX.out v) 1; simp only [List.getElem?_toArray, List.getElem?_cons_zero, List.getElem?_cons_succ, Array.setIfInBounds, List.set_cons_zero] at t0 t1; clear HT2 Hown2 hs2 HX2)
                      all_goals go_meet
                      case rel => exact ⟨_, _, by simpa using set_same (i := 1) (set_same (i := 0) HX.out (.int .i64 _)) (.int .i64 _), ownsRow_setCell_other (ownsRow_setCell_other Hown.out Hne.out _) Hne.out _, by simpa [World.setCell] using hs, (HT.out.set _ _ hX).set _ _ hX⟩
                      case rel => exact ⟨_, _, HX.out, Hown.out, hs, HT.out⟩
                    case rest =>
                      clear HT Hown HX hs
                      obtain ⟨p, q, hbk, hown, hs, hT⟩ := hcut
                      have HT := Lib.hid hT
                      have Hown := Lib.hid hown
                      have v0 := cells_at hbk 0
                      have v1 := cells_at hbk 1
                      simp only [List.getElem?_toArray, List.getElem?_cons_zero, List.getElem?_cons_succ] at v0 v1
                      clear hT hown hbk
                      go_wp2_with (at_builtin; go_loud (refine wpList_append_lies _ rfl (.tmp 53) (.tmp 55) 34 rfl (b2 + 1) 36 i0 _ 2 16 Try.underlying34 hi hz0 hz1 hz2 rfl (by omega) _ spans.length (sps spans) rfl (Hown.out.alloc _) ⟨_, 0, none⟩ 1 1 [.int .i64 p, .int .i64 q] rfl rfl (World.news_of_block (heap_at_new _ _ _ (by first | rfl | simp))) (by simp [Value.oneCell']) (by omega) (by unfold maxLen; omega) (by omega) (by simp; omega) _ rfl ?_); intro gg cap4 w4 hown4 hg4 hat4 hlt4)
                      go_roundw
                      case rel => exact ⟨k - 1, spans ++ [(p, q)], by go_num, by rw [List.length_append]; simp; omega, own_sp hown4, by have := hg4.size; simp at this; omega, (HT.out.alloc _).grown hg4 (fun g hg => by have := (Hown.out.lt g hg).1; omega)⟩
                      case measure => simp [intOf]; omega
                · obtain rfl : k = 0 := by omega
                  have hsp := Lib.hid (SpA.of_own Hown.out (by unfold maxLen; omega))
                  have HZ2 := Lib.hid (HZ.out.step HT.out.below)
                  have hsl : spans.length ≤ 1000 := by omega
                  have HBx := Lib.hid (bl_step HB.out HT.out.below)
                  clear Hown HT HZ HZW hs
                  have cr := fun w' (h : ZA w' A8 pages) => runs_w s most A8 pages cap8 w' h (by omega)
                  have crr := fun w' (h : ZA w' A8 pages) => rRuns_w s most A8 pages cap8 w' h (by omega) m1
                  have hspl := fun w' (h : SpA w' u10 spans) => split_w u10 spans most w' h hsl
                  have hrsp := fun w' (h : SpA w' u10 spans) => rSplit_w u10 spans most w' h hsl
                  generalize runsP s pages most = rl at cr crr
                  generalize splitP most spans = sl at hspl hrsp
                  go_wp2_with (first
                    | (go_at_call 20; (with_reducible refine Calls.mono (cr _ HZ2.out) ?_); rintro e w1 ⟨v1, rfl, hv1, hb1⟩; have HZ3 := Lib.hid (HZ2.out.step hb1); have HS1 := Lib.hid (hsp.out.step hb1); have HV1 := Lib.hid hv1; have HBy := Lib.hid (bl_step HBx.out hb1); clear hv1 hb1 cr)
                    | (go_at_call 21; (with_reducible refine Calls.mono (crr _ HZ3.out) ?_); rintro e w2 ⟨v2, rfl, hv2, hb2⟩; have HS2 := Lib.hid (HS1.out.step hb2); have HV1b := Lib.hid (HV1.out.step hb2); have HV2 := Lib.hid hv2; have HBz := Lib.hid (bl_step HBy.out hb2); clear hv2 hb2 crr)
                    | (go_at_call 19; (with_reducible refine Calls.mono (same_w v1 v2 rl _ HV1b.out HV2.out) ?_); rintro e w3 ⟨rfl, hb3⟩; have HS3 := Lib.hid (HS2.out.step hb3); have HB3 := Lib.hid (bl_step HBz.out hb3); clear hb3)
                    | (go_at_call 22; (with_reducible refine Calls.mono (hspl _ HS3.out) ?_); rintro e w4 ⟨v4, rfl, hv4, hb4⟩; have HS4 := Lib.hid (HS3.out.step hb4); have HV4 := Lib.hid hv4; have HB4 := Lib.hid (bl_step HB3.out hb4); clear hv4 hb4 hspl)
                    | (go_at_call 23; (with_reducible refine Calls.mono (hrsp _ HS4.out) ?_); rintro e w5 ⟨v5, rfl, hv5, hb5⟩; have HV4b := Lib.hid (HV4.out.step hb5); have HV5 := Lib.hid hv5; have HB5 := Lib.hid (bl_step HB4.out hb5); clear hv5 hb5 hrsp)
                    | (go_at_call 19; (with_reducible refine Calls.mono (same_w v4 v5 sl _ HV4b.out HV5.out) ?_); rintro e w6 ⟨rfl, hb6⟩; have HB6 := Lib.hid (bl_step HB5.out hb6); clear hb6)
                    | (go_at_call 17; (with_reducible refine Calls.mono (awake_w _) ?_); rintro e w9 ⟨rfl, hb9⟩))
                  go_ret
                  exact ⟨rfl, bl_step HB6.out hb9⟩

end Go.Proofs.Ytjnaphhbkbigcaa
