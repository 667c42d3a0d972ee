/-
  The law LayoutCovers: the walk.
-/
import Derived.Test.YtjnaphhbkbigcaaLayG
namespace Go.Proofs.Ytjnaphhbkbigcaa
open Go.RowKit
set_option linter.unusedVariables false
set_option linter.unusedSimpArgs false

set_option maxRecDepth 100000 in
set_option maxHeartbeats 4000000 in
theorem layoutCovers_walk (a0 : Option Addr) (len0 cap0 : Nat) (z0 : List Int) (w : World) (w0 : IsRow .i64 w a0 len0 cap0 z0) :
    Calls Try.prog 6 #[.slice a0 len0 cap0] w fun e w' => e = .returned (.bool true) ∧ Below w.heap.size w w' := by
  have hmm := @run_makeMap Try.prog
  have HT := Lib.hid (Tp.start w0)
  clear w0
  obtain ⟨b1, hb1⟩ : ∃ b, b = w.heap.size := ⟨_, rfl⟩
  rw [← hb1] at HT
  have HB1 := Lib.hid hb1
  clear hb1
  obtain ⟨i0, hi, hz0, hz1, hz2⟩ := info_parts int_info
  go_enter Try.func6, Try.ntmps6
  go_upto_region 1 with fail
  go_cut [3] (fun s3 wx => s3 = .pointer (some ⟨b1, 0, none⟩) ∧ Tp w b1 wx)
  case first =>
    go_wp2
    go_meet
    case rel => exact ⟨by rw [HB1.out], by rw [HB1.out] at HT ⊢; exact HT.out⟩
  case rest =>
    obtain ⟨rfl, hT⟩ := hcut
    clear HT
    have HT := Lib.hid hT
    clear hT
    go_upto_region 2 with fail
    go_cut [4] (fun s4 wx => ∃ s, s4 = .int .i64 s ∧ 0 ≤ s ∧ s < 7 ∧ Tp w b1 wx)
    case first =>
      go_wp2_with (go_at_call 7; refine (next_t _ w _ _ (by omega) (by omega) HT.out).mono ?_; rintro e w1 ⟨x, rfl, h0, h1, hT, hg⟩; have HT2 := Lib.hid hT; clear HT hT; have HT := HT2; clear HT2; have HG := Lib.hid hg; clear hg)
      go_meet
      case rel => exact ⟨_, rfl, h0, h1, HT.out⟩
    case rest =>
      obtain ⟨s, rfl, s0, s7, hT⟩ := hcut
      clear HT
      have HT := Lib.hid hT
      clear hT
      go_upto_region 3 with fail
      go_cut [5] (fun s5 wx => ∃ base pages, b1 < base ∧ OwnZ wx base s5 pages ∧ pages.length ≤ 9 ∧ (∀ z ∈ pages, 0 ≤ z ∧ z < 8) ∧ Tp w b1 wx)
      case first =>
        go_wp2_with (go_at_call 18; refine (ints_o w _ _ _ _ _ HT.out (by omega) (by omega) (by omega)).mono ?_; rintro e w2 ⟨v, zs, rfl, hz, hzl, hzr, hT⟩; have HZ := Lib.hid hz; have HT2 := Lib.hid hT; have HR := Lib.hid hzr; have hlt := HT.out.lt; clear HT hz hT hzr)
        go_meet
        case rel => exact ⟨_, zs, hlt, HZ.out, by omega, HR.out, HT2.out⟩
      case rest =>
        obtain ⟨base, pages, hbb, hz, hpl, hpr, hT⟩ := hcut
        clear HT
        have HT := Lib.hid hT
        have HZ := Lib.hid hz
        have HPR := Lib.hid hpr
        clear hT hz hpr
        go_upto_region 4 with fail
        go_cut [6] (fun s6 wx => ∃ most, s6 = .int .i64 most ∧ 2 ≤ most ∧ most ≤ 9 ∧ OwnZ wx base u5 pages ∧ Tp w b1 wx)
        case first =>
          go_wp2_with (go_at_call 7; refine (next_t _ w _ _ (by omega) (by omega) HT.out).mono ?_; rintro e w1 ⟨x, rfl, h0, h1, hT, hg⟩; have HT2 := Lib.hid hT; clear HT hT; have HT := HT2; clear HT2; have HG := Lib.hid hg; clear hg)
          go_meet
          case rel => exact ⟨_, rfl, by omega, by omega, own_grown HZ.out HG.out hbb, HT.out⟩
        case rest =>
          obtain ⟨most, rfl, m2, m9, hz, hT⟩ := hcut
          clear HT HZ
          have HT := Lib.hid hT
          obtain ⟨A5, cap5, rfl, _, hza⟩ := OwnZ.za hz
          have HZ := Lib.hid hza
          clear hT hza hz
          go_upto_region 5 with fail
          go_cut [7] (fun s7 wx => SpA wx s7 (runsP s pages most) ∧ ZA wx A5 pages ∧ Tp w b1 wx)
          case first =>
            go_wp2_with (go_at_call 20; (with_reducible refine Calls.mono (runs_w s most A5 pages cap5 _ HZ.out (by omega)) ?_); rintro e w1 ⟨v1, rfl, hv1, hb1⟩; have HZ3 := Lib.hid (HZ.out.step hb1); have HV1 := Lib.hid hv1; have HT3 := Lib.hid (HT.out.step hb1); clear hv1 hb1)
            go_meet
            case rel => exact ⟨HV1.out, HZ3.out, HT3.out⟩
          case rest =>
            clear HT HZ
            obtain ⟨hv, hz, hT⟩ := hcut
            obtain ⟨W, hWe⟩ : ∃ W : World, W = wc := ⟨_, rfl⟩
            subst hWe
            have HV := Lib.hid hv
            have HZ := Lib.hid hz
            have HT := Lib.hid hT
            have hlen8 := runsP_len s pages most
            obtain ⟨hin, hsec⟩ := runs_secs ⟨s0, s7⟩ m2 pages
            obtain ⟨hasc, hkl, hmem⟩ := keys_secs (s := s) ⟨s0, s7⟩ HPR.out
            have hU16 : (secs (runsP s pages most)).length ≤ 16 := by
              rw [hsec, two_len]
              have := ps_len pages
              omega
            rw [← hsec] at hasc hkl hmem
            generalize runsP s pages most = R at HV hlen8 hin hsec hasc hkl hmem hU16
            have HIN := Lib.hid hin
            have HASC := Lib.hid hasc
            have HMEM := Lib.hid hmem
            have HKL := Lib.hid hkl
            obtain ⟨B, hB⟩ : ∃ B, B = W.heap.size := ⟨_, rfl⟩
            have HB := Lib.hid hB
            have HM := Lib.hid (MB.made W)
            rw [← hB] at HM
            clear hv hz hT hin hsec hasc hkl hmem hB
            have HKK := Lib.hid (show keysP s (pages.take 0) = [] by simp [keysP])
            go_upto_region 6 with fail
            go_cut [8] (fun s8 wx => s8 = .map (some B) ∧ MB wx B [] ∧ Below W.heap.size W wx)
            case first =>
              go_wp2
              go_meet
              case rel => exact ⟨by rw [HB.out], HM.out, (Below.refl _ _).alloc (Nat.le_refl _) _⟩
            case rest =>
              obtain ⟨rfl, hM, hW⟩ := hcut
              clear HM hmm
              have HM := Lib.hid hM
              have HW := Lib.hid hW
              clear hM hW
              go_upto_block 0 with fail
              go_cut [] (fun wx => MB wx B (keysP s pages) ∧ Below W.heap.size W wx)
              case first =>
                go_wp2
                go_loopw [9] (fun s9 wx => ∃ i : Nat, i ≤ pages.length ∧ s9 = .int .i64 i ∧ MB wx B (keysP s (pages.take i)) ∧ Below W.heap.size W wx) (fun s9 _ => pages.length - (intOf s9).toNat)
                case atStart => exact ⟨0, by omega, rfl, by rw [HKK.out]; exact HM.out, HW.out⟩
                case round =>
                  clear HM HW
                  obtain ⟨i, hi9, rfl, hM, hW⟩ := hrel
                  have HM := Lib.hid hM
                  have HW := Lib.hid hW
                  clear hM hW
                  by_cases hlt : i < pages.length
                  · obtain ⟨g, o, z, rfl, lg, hzi, hzc⟩ := HZ.out.at_ hlt
                    have hzr := HPR.out z (List.mem_of_getElem? hzi)
                    have HK2 := Lib.hid (keysP_two (s := s) hzi)
                    have HC := Lib.hid hzc
                    have hpg := fun w => pg_w s z w
                    have hpr : 0 ≤ pgP s z ∧ pgP s z ≤ 1000 := by rw [pg_in ⟨s0, s7⟩ hzr]; omega
                    generalize pgP s z = x at HK2 hpg hpr
                    generalize keysP s (pages.take i) = K at HM HK2
                    clear hzi hzc
                    have i1 : (i : Int) < (pages.length : Int) := by omega
                    have i2 : (0 : Int) ≤ (i : Int) := by omega
                    go_wp2
                    go_loopw [10] (fun s10 wx => ∃ k : Nat, k ≤ 2 ∧ s10 = .int .i64 k ∧ MB wx B (addN K x k) ∧ Below W.heap.size W wx) (fun s10 _ => 2 - (intOf s10).toNat)
                    case atStart => exact ⟨0, by omega, rfl, HM.out, HW.out⟩
                    case round =>
                      clear HM HW
                      obtain ⟨k, hk2, rfl, hM, hW⟩ := hrel
                      have HM := Lib.hid hM
                      have HW := Lib.hid hW
                      clear hM hW
                      have hzc := (HW.out.cell (p := ⟨g, o + i, none⟩) lg).trans HC.out
                      by_cases hk : k < 2
                      · have k1 : (k : Int) < 2 := by omega
                        have wx := w64 (x := x + k) (by omega)
                        have HA := Lib.hid (show addN K x (k + 1) = addK (addN K x k) (x + k) from rfl)
                        generalize addN K x k = K1 at HM HA
                        go_wp2_with (first
                          | (go_at_call 15; (with_reducible refine Calls.mono (hpg _) ?_); rintro e w1 ⟨rfl, rfl⟩)
                          | (at_mapUpdate; go_loud (refine wpList_store_mb rfl _ _ _ 41 rfl 3 4 Try.underlying41 Try.underlying3 B (K1) rfl (HM.out) (x + k) rfl rfl ?_); intro w4 hM4 hg4))
                        go_roundw
                        case rel => exact ⟨k + 1, by omega, by go_num, by rw [HA.out]; exact hM4, HW.out.grown hg4 HW.out.size (fun q hq => by injection hq with hq; have := HB.out; omega)⟩
                        case measure => simp [intOf]; omega
                      · obtain rfl : k = 2 := by omega
                        go_wp2
                        go_roundw
                        case rel => exact ⟨i + 1, by omega, by go_num, by rw [HK2.out]; exact HM.out, HW.out⟩
                        case measure => simp [intOf]; omega
                  · obtain rfl : i = pages.length := by omega
                    have HKP := Lib.hid (List.take_length (l := pages))
                    go_wp2
                    go_meet
                    case rel => exact ⟨by have := HM.out; rw [HKP.out] at this; exact this, HW.out⟩
              case rest =>
                clear HM HW HKK HPR
                obtain ⟨hM, hW⟩ := hcut
                have HM := Lib.hid hM
                have HV2 := Lib.hid (HV.out.step hW)
                have HT2 := Lib.hid (HT.out.step hW)
                clear HV HT HZ HB hM hW
                generalize keysP s pages = K at HM HMEM HKL
                obtain ⟨V, hVe⟩ : ∃ V : World, V = wc := ⟨_, rfl⟩
                subst hVe
                have HP0 := Lib.hid (secPos_zero R)
                obtain ⟨A7, cap7, rfl, _, hR⟩ := HV2.out
                have HR := Lib.hid hR
                have HS := Lib.hid (fun w' (h : Below V.heap.size V w') => HV2.out.step h)
                have hb1V := HT2.out.lt
                have HT := Lib.hid (fun w' (h : Below V.heap.size V w') => HT2.out.step h)
                clear hR HV2 HT2
                go_upto_block 4 with fail
                go_cut [11] (fun s11 wx => OwnZ wx V.heap.size s11 (secs R) ∧ Below V.heap.size V wx)
                case first =>
                  go_wp2
                  go_loopw [11, 12] (fun s11 s12 wx => ∃ i : Nat, i ≤ R.length ∧ s12 = .int .i64 i ∧ OwnZ wx V.heap.size s11 ((secs R).take (secPos R i)) ∧ Below V.heap.size V wx) (fun _ s12 _ => R.length - (intOf s12).toNat)
                  case atStart => exact ⟨0, by omega, rfl, by rw [HP0.out]; exact World.ownsRow_nil _ _ _ _, Below.refl _ _⟩
                  case round =>
                    obtain ⟨i, hi8, rfl, hown, hW⟩ := hrel
                    have Hown := Lib.hid hown
                    have HW := Lib.hid hW
                    clear hown hW
                    by_cases hlt : i < R.length
                    · obtain ⟨g, a, n, rfl, lg, hx, hc0, hc1⟩ := HR.out.at_ hlt
                      have hxr := HIN.out (a, n) (List.mem_of_getElem? hx)
                      simp only at hxr
                      obtain ⟨n1, nm, a0, an⟩ := hxr
                      have HX := Lib.hid hx
                      have HC0 := Lib.hid hc0
                      have HC1 := Lib.hid hc1
                      have HPS := Lib.hid (secPos_succ hx)
                      clear hx hc0 hc1
                      have i1 : (i : Int) < (R.length : Int) := by omega
                      have i2 : (0 : Int) ≤ (i : Int) := by omega
                      have c0 := (HW.out.cell (p := ⟨g, i * 2, none⟩) lg).trans HC0.out
                      have c1 := (HW.out.cell (p := ⟨g, i * 2 + 1, none⟩) lg).trans HC1.out
                      go_wp2
                      clear c0 c1
                      go_loopw [11, 13] (fun s11 s13 wx => ∃ k : Nat, k ≤ n.toNat ∧ s13 = .int .i64 k ∧ OwnZ wx V.heap.size s11 ((secs R).take (secPos R i + k)) ∧ Below V.heap.size V wx) (fun _ s13 _ => n.toNat - (intOf s13).toNat)
                      case atStart => exact ⟨0, by omega, rfl, Hown.out, HW.out⟩
                      case round =>
                        clear Hown HW
                        obtain ⟨k, hkn, rfl, hown, hW⟩ := hrel
                        have HW := Lib.hid hW
                        have c0 := (hW.cell (p := ⟨g, i * 2, none⟩) lg).trans HC0.out
                        have c1 := (hW.cell (p := ⟨g, i * 2 + 1, none⟩) lg).trans HC1.out
                        clear hW
                        by_cases hk : k < n.toNat
                        · have k1 : (k : Int) < n := by omega
                          have k2 : (k : Int) < 99 := by omega
                          have hat := secs_at HX.out hk
                          have hik : decide (a + (k : Int) ∈ K) = true := decide_eq_true ((HMEM.out _).2 (List.mem_of_getElem? hat))
                          have wx := w64 (x := a + (k : Int)) (by omega)
                          obtain ⟨m, hm⟩ : ∃ m, secPos R i + k = m := ⟨_, rfl⟩
                          have HM2 := Lib.hid hm
                          have hmk : secPos R i + (k + 1) = m + 1 := by omega
                          rw [hm] at hown
                          simp only at hat
                          rw [hm] at hat
                          have hUm : m < (secs R).length := (List.getElem?_eq_some_iff.1 hat).1
                          have hL : ((secs R).take m).length = m := by rw [List.length_take]; omega
                          have HL := Lib.hid hL
                          have hown2 : wr.ownsRow V.heap.size 3 1 u11 m (((secs R).take m).map (Value.int .i64)) := by
                            have := hown
                            unfold OwnZ at this
                            rw [hL] at this
                            exact this
                          obtain ⟨A, cap, rfl, _, hza⟩ := OwnZ.za hown
                          have Hown := Lib.hid hown2
                          have HMK := Lib.hid hmk
                          have HAT := Lib.hid hat
                          rw [hL] at Hown ⊢
                          have hm9 : m ≤ 16 := by omega
                          have hs := HW.out.size
                          clear hm hmk hat hown hown2 hL hUm
                          rcases m with _ | m
                          · clear hza
                            go_wp2_with (first
                              | (at_lookup; refine wpList_look_mb (Eq.refl true) _ _ 41 rfl 3 4 Try.underlying41 Try.underlying3 (Try.zeroValue4 _) B (K) rfl (MB.step HM.out HW.out) (a + k) rfl ?_)
                              | (at_builtin; go_loud (refine wpList_append_lies _ rfl (.tmp 113) (.tmp 115) 22 rfl V.heap.size 3 i0 _ 1 8 Try.underlying22 hi hz0 hz1 hz2 rfl (by omega) _ 0 (((secs R).take 0).map (Value.int .i64)) rfl (Hown.out.alloc _) ⟨_, 0, none⟩ 1 1 [.int .i64 (a + k)] rfl rfl (World.news_of_block (heap_at_new _ _ _ (by first | rfl | simp))) (by simp [Value.oneCell']) (by omega) (by unfold maxLen; omega) (by omega) (by simp; omega) _ rfl ?_); intro gg cap4 w4 hown4 hg4 hat4 hlt4))
                            go_roundw
                            case rel => exact ⟨k + 1, by omega, by go_num, by rw [HMK.out, take_more HAT.out]; exact own_app HL.out hown4, (bl_alloc HW.out _).grown hg4 (bl_alloc HW.out _).size (fun q hq => (Hown.out.lt q hq).1)⟩
                            case measure => simp [intOf]; omega
                          · obtain ⟨gz, oz, z, hAe, lz, hz, hzc⟩ := hza.at_ (i := m) (by rw [HL.out]; omega)
                            rw [List.getElem?_take, if_pos (by omega)] at hz
                            have hzk := asc_at HASC.out hz HAT.out
                            have HZC := Lib.hid hzc
                            have m1 : IntKind.i64.wrap ((m : Int) + 1 - 1) = (m : Int) := by rw [show (m : Int) + 1 - 1 = m by omega]; exact w64 (by omega)
                            have m2 := w64 (x := (m : Int)) (by omega)
                            have m3 : (0 : Int) < (m : Int) + 1 := by omega
                            have m4 : (0 : Int) ≤ (m : Int) := by omega
                            have m5 : (m : Int) < (m : Int) + 1 := by omega
                            clear hz hzc hza
                            subst hAe
                            have hzc := HZC.out
                            go_wp2_with (first
                              | (at_lookup; refine wpList_look_mb (Eq.refl true) _ _ 41 rfl 3 4 Try.underlying41 Try.underlying3 (Try.zeroValue4 _) B (K) rfl (MB.step HM.out HW.out) (a + k) rfl ?_)
                              | (at_builtin; go_loud (refine wpList_append_lies _ rfl (.tmp 113) (.tmp 115) 22 rfl V.heap.size 3 i0 _ 1 8 Try.underlying22 hi hz0 hz1 hz2 rfl (by omega) _ (m + 1) (((secs R).take (m + 1)).map (Value.int .i64)) rfl (Hown.out.alloc _) ⟨_, 0, none⟩ 1 1 [.int .i64 (a + k)] rfl rfl (World.news_of_block (heap_at_new _ _ _ (by first | rfl | simp))) (by simp [Value.oneCell']) (by omega) (by unfold maxLen; omega) (by omega) (by simp; omega) _ rfl ?_); intro gg cap4 w4 hown4 hg4 hat4 hlt4))
                            go_roundw
                            case rel => exact ⟨k + 1, by omega, by go_num, by rw [HMK.out, take_more HAT.out]; exact own_app HL.out hown4, (bl_alloc HW.out _).grown hg4 (bl_alloc HW.out _).size (fun q hq => (Hown.out.lt q hq).1)⟩
                            case measure => simp [intOf]; omega
                        · have hkn2 : k = n.toNat := by omega
                          have k1 : ¬ (k : Int) < n := by omega
                          have Hown := Lib.hid hown
                          clear hown
                          go_wp2
                          go_roundw
                          case rel => exact ⟨i + 1, by omega, by go_num, by rw [HPS.out, ← hkn2]; exact Hown.out, HW.out⟩
                          case measure => simp [intOf]; omega
                    · obtain rfl : i = R.length := by omega
                      have HU := Lib.hid (secPos_all R)
                      have HU2 := Lib.hid (List.take_length (l := secs R))
                      go_wp2
                      go_meet
                      case rel => exact ⟨by have := Hown.out; rw [HU.out, HU2.out] at this; exact this, HW.out⟩
                case rest =>
                  clear HP0
                  obtain ⟨hown, hW⟩ := hcut
                  have Hown := Lib.hid hown
                  have HT2 := Lib.hid (HT.out _ hW)
                  have HS2 := Lib.hid (HS.out _ hW)
                  have HM2 := Lib.hid (HM.out.step hW)
                  clear HT HS HM hown hW HR
                  go_upto_region 27 with fail
                  go_cut [15] (fun s15 wx => ∃ m, 1 ≤ m ∧ m ≤ 3 ∧ SpA wx s15 (splitP m R) ∧ ZAs wx u11 (secs R) ∧ MB wx B K ∧ Below w.heap.size w wx)
                  case first =>
                    go_wp2_with (first
                      | (go_at_call 7; refine (next_t _ w _ _ (by omega) (by omega) HT2.out).mono ?_; rintro e w1 ⟨x, rfl, h0, h1, hT, hg⟩; have HT3 := Lib.hid hT; have HS3 := Lib.hid (HS2.out.tape HT2.out.1 hg); have HM3 := Lib.hid (HM2.out.tape HT2.out.1 hg); have Hown3 := Lib.hid (own_grown Hown.out hg hb1V); have wm := w64 (x := 1 + x) (by omega); clear hT hg HT2 HS2 HM2 Hown)
                      | (go_at_call 22; (with_reducible refine Calls.mono (split_w _ R (1 + x) _ HS3.out (by omega)) ?_); rintro e w2 ⟨v, rfl, hv, hb⟩; have HV4 := Lib.hid hv; have HM4 := Lib.hid (HM3.out.step hb); have HU4 := Lib.hid ((ZAs.of_own Hown3.out (by unfold maxLen; omega)).step hb); have HB4 := Lib.hid (bl_step HT3.out.below hb); clear hv hb))
                    go_meet
                    case rel => exact ⟨1 + x, by omega, by omega, HV4.out, HU4.out, HM4.out, HB4.out⟩
                  case rest =>
                    clear HT2 HS2 HM2 Hown
                    obtain ⟨m, m1, m3, hv, hu, hM, hW⟩ := hcut
                    obtain ⟨Y, hYe⟩ : ∃ Y : World, Y = wc := ⟨_, rfl⟩
                    subst hYe
                    have HM := Lib.hid hM
                    have HW := Lib.hid hW
                    obtain ⟨hpin, hps⟩ := split_secs m1 HIN.out
                    generalize splitP m R = P at hv hpin hps
                    have HPIN := Lib.hid hpin
                    have HPP := Lib.hid hps
                    obtain ⟨A15, cap15, rfl, hP9, hR⟩ := hv
                    have HR := Lib.hid hR
                    obtain ⟨A11, cap11, rfl, _, hZ⟩ := hu
                    have HZ := Lib.hid hZ
                    have HP0 := Lib.hid (secPos_zero P)
                    unfold maxLen at hP9
                    clear hM hW hpin hps hR hZ
                    go_upto_block 8 with fail
                    go_cut [16] (fun s16 wx => s16 = .int .i64 (secs R).length ∧ Below Y.heap.size Y wx)
                    case first =>
                      go_wp2
                      go_loopw [16, 17] (fun s16 s17 wx => ∃ i pos : Nat, i ≤ P.length ∧ s17 = .int .i64 i ∧ pos = secPos P i ∧ s16 = .int .i64 pos ∧ Below Y.heap.size Y wx) (fun _ s17 _ => P.length - (intOf s17).toNat)
                      case atStart => exact ⟨0, 0, by omega, rfl, HP0.out.symm, rfl, Below.refl _ _⟩
                      case round =>
                        obtain ⟨i, pos, hi8, rfl, hpos, rfl, hW2⟩ := hrel
                        have HPos := Lib.hid hpos
                        have HW2 := Lib.hid hW2
                        clear hpos hW2
                        by_cases hlt : i < P.length
                        · obtain ⟨g, a, n, rfl, lg, hx, hc0, hc1⟩ := HR.out.at_ hlt
                          have hxr := HPIN.out (a, n) (List.mem_of_getElem? hx)
                          simp only at hxr
                          obtain ⟨n1, nm, a0, an⟩ := hxr
                          have HX := Lib.hid hx
                          have HC0 := Lib.hid hc0
                          have HC1 := Lib.hid hc1
                          have HPS := Lib.hid (secPos_succ hx)
                          clear hx hc0 hc1
                          have i1 : (i : Int) < (P.length : Int) := by omega
                          have i2 : (0 : Int) ≤ (i : Int) := by omega
                          go_wp2
                          go_loopw [16, 18] (fun s16 s18 wx => ∃ k pos : Nat, k ≤ n.toNat ∧ s18 = .int .i64 k ∧ pos = secPos P i + k ∧ s16 = .int .i64 pos ∧ Below Y.heap.size Y wx) (fun _ s18 _ => n.toNat - (intOf s18).toNat)
                          case atStart => exact ⟨0, pos, by omega, rfl, HPos.out, rfl, HW2.out⟩
                          case round =>
                            clear HPos HW2
                            obtain ⟨k, pos, hkn, rfl, hpos, rfl, hW2⟩ := hrel
                            have HPos := Lib.hid hpos
                            have c0 := (hW2.cell (p := ⟨g, i * 2, none⟩) lg).trans HC0.out
                            have c1 := (hW2.cell (p := ⟨g, i * 2 + 1, none⟩) lg).trans HC1.out
                            by_cases hk : k < n.toNat
                            · have k1 : (k : Int) < n := by omega
                              have k2 : (k : Int) < 99 := by omega
                              have hat := secs_at HX.out hk
                              rw [HPP.out, ← hpos] at hat
                              simp only at hat
                              have hposlt : pos < (secs R).length := (List.getElem?_eq_some_iff.1 hat).1
                              obtain ⟨gz, oz, z, hAe, lz, hz, hzc⟩ := (HZ.out.step hW2).at_ hposlt
                              have hzk : z = a + (k : Int) := by
                                rw [hat] at hz
                                injection hz with hz
                                exact hz.symm
                              subst hzk
                              have wx := w64 (x := a + (k : Int)) (by omega)
                              have q1 : (pos : Int) < ((secs R).length : Int) := by omega
                              have q2 : decide (((secs R).length : Int) ≤ (pos : Int)) = false := decide_eq_false (by omega)
                              have q3 : (0 : Int) ≤ (pos : Int) := by omega
                              have HW2 := Lib.hid hW2
                              subst hAe
                              clear hz hat hpos hW2
                              go_wp2_with (go_quiet (fail))
                              go_roundw
                              case rel => exact ⟨k + 1, pos + 1, by omega, by go_num, by rw [HPos.out]; omega, by go_num, below_drewN HW2.out _⟩
                              case measure => simp [intOf]; omega
                            · have hkn2 : k = n.toNat := by omega
                              have k1 : ¬ (k : Int) < n := by omega
                              have HW2 := Lib.hid hW2
                              clear hpos hW2
                              go_wp2
                              go_roundw
                              case rel => exact ⟨i + 1, pos, by omega, by go_num, by rw [HPS.out, ← hkn2]; exact HPos.out, rfl, HW2.out⟩
                              case measure => simp [intOf]; omega
                        · obtain rfl : i = P.length := by omega
                          have HU := Lib.hid (secPos_all P)
                          go_wp2
                          go_meet
                          case rel => exact ⟨by rw [HPos.out, HU.out, HPP.out], HW2.out⟩
                    case rest =>
                      obtain ⟨rfl, hW2⟩ := hcut
                      have HM2 := Lib.hid (HM.out.step hW2)
                      have HW2 := Lib.hid (bl_step HW.out hW2)
                      have hkl := HKL.out
                      clear hW2 HM HW
                      go_wp2_with (first
                        | (at_len; refine wpList_len_mb rfl _ 41 rfl 3 4 Try.underlying41 B K rfl HM2.out ?_)
                        | (go_at_call 17; (with_reducible refine Calls.mono (awake_w _) ?_); rintro e w9 ⟨rfl, hb9⟩))
                      go_ret
                      exact ⟨rfl, bl_step HW2.out hb9⟩

end Go.Proofs.Ytjnaphhbkbigcaa
