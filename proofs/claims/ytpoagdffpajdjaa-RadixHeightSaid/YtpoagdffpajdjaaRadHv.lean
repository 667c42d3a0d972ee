/-
  The law RadixHeight, by contracts.
-/
import Derived.Test.YtpoagdffpajdjaaRadHt
namespace Go.Proofs.Ytpoagdffpajdjaa
open Go.RowKit
set_option linter.unusedVariables false
set_option linter.unusedSimpArgs false

def hidxL : List Int := [0, 1, 3, 4, 15, 16, 63, 64, 255]
theorem hidxL_range : ∀ y ∈ hidxL, 0 ≤ y ∧ y < 256 := by decide
set_option maxRecDepth 100000 in
set_option maxHeartbeats 4000000 in
theorem radixHeight_walk (a0 : Option Addr) (len0 cap0 : Nat) (z0 : List Int) (w : World) (w0 : IsRow .i64 w a0 len0 cap0 z0) :
    Calls Try.prog 5 #[.slice a0 len0 cap0] w fun e w' => e = .returned (.bool true) ∧ Below w.heap.size w w' := by
  have hmm := @run_makeMap Try.prog
  have HP := Lib.hid w0
  clear w0
  go_enter Try.func5, Try.ntmps5
  go_upto_region 4 with fail
  go_cut [3, 4, 5, 6] (fun s3 s4 s5 s6 wx => ∃ b Z M : Nat, s3 = .pointer (some ⟨b, 0, none⟩) ∧ s4 = .pointer (some ⟨Z, 0, none⟩) ∧ s5 = .map (some M) ∧ s6 = .int .i64 0 ∧ HS w b Z M Z 0 0 zeroC zeroC wx)
  case first =>
    go_wp2
    go_meet
    case rel =>
      exact ⟨w.heap.size, w.heap.size + 1, w.heap.size + 1 + 1, rfl, rfl, rfl, rfl, HS.start HP.out _ rfl⟩
  case rest =>
    clear HP hmm
    obtain ⟨b, Z, M, rfl, rfl, rfl, rfl, hS⟩ := hcut
    have HS0 := Lib.hid hS
    clear hS
    go_wp2
    go_loopw [6] (fun s6 wx => ∃ (i h n : Nat) (c : Cn), s6 = .int .i64 i ∧ i ≤ 12 ∧ n ≤ i ∧ HS w b Z M Z n h c c wx) (fun s6 _ => 12 - (intOf s6).toNat)
    case atStart => exact ⟨0, 0, 0, zeroC, rfl, by omega, by omega, HS0.out⟩
    case round =>
      clear HS0
      obtain ⟨i, h, n, c, rfl, hi, hn, hR⟩ := hrel
      have HR := Lib.hid hR
      clear hR
      go_upto_region 5 with fail
      go_cut [26] (fun s wx => ∃ q, s = .bool q ∧ (q = true → i < 12) ∧ HS w b Z M Z n h c c wx)
      case first =>
        by_cases hlt : i < 12
        · have k1 : (i : Int) < 12 := by omega
          go_wp2_with (go_at_call 29; go_must (refine (end_p w _ b HR.out.tp).mono ?_); rintro e w1 ⟨q, rfl, hb1⟩)
          go_meet
          case rel => exact ⟨_, rfl, fun _ => hlt, HR.out.step hb1⟩
        · obtain rfl : i = 12 := by omega
          go_wp2
          go_meet
          case rel => exact ⟨_, rfl, fun h => (by cases h), HR.out⟩
      case rest =>
        clear HR
        obtain ⟨q, rfl, hq, hR⟩ := hcut
        have HR := Lib.hid hR
        clear hR
        cases q with
        | false =>
          clear hq
          go_wp2_with (go_at_call 26; (with_reducible refine Calls.mono (awake_w _) ?_); rintro e w9 ⟨rfl, hb9⟩)
          go_ret
          exact ⟨rfl, bl_step HR.out.tp.2.1 hb9⟩
        | true =>
          have hlt := hq rfl
          clear hq hi
          go_upto_region 7 with fail
          go_cut [7] (fun s wx => ∃ j : Nat, s = .int .i64 j ∧ j < 256 ∧ HS w b Z M Z n h c c wx)
          case first =>
            go_wp2_with (go_at_call 12; go_must (refine (next_p _ w _ b (by omega) (by omega) (HR.out.alloc _).tp).mono ?_); rintro e w2 ⟨x, rfl, h0, h1, hT, hg⟩; obtain ⟨j, rfl⟩ := Int.eq_ofNat_of_zero_le h0; have hj : j < hidxL.length := (by simp only [hidxL, List.length_cons, List.length_nil]; omega); have hc := hg.cell (ints_cell _ hidxL 3 j hj) (by have := HR.out.tp.lt; simp; omega); have HR2 := Lib.hid ((HR.out.alloc _).drew hT hg); have HY := Lib.hid (hidxL_range _ (List.getElem_mem hj)); generalize hidxL[j] = y at hc HY; clear hj)
            go_meet
            case rel =>
              obtain ⟨k, rfl⟩ := Int.eq_ofNat_of_zero_le HY.out.1
              exact ⟨k, rfl, by have := HY.out.2; omega, HR2.out⟩
          case rest =>
            clear HR
            obtain ⟨j, rfl, hj, hR⟩ := hcut
            have HR := Lib.hid hR
            clear hR
            go_upto_region 8 with fail
            go_cut [8] (fun s wx => ∃ y : Int, s = .int .i64 y ∧ 0 ≤ y ∧ HS w b Z M Z n h c c wx)
            case first =>
              go_wp2_with (go_at_call 12; go_must (refine (next_p _ w _ b (by omega) (by omega) HR.out.tp).mono ?_); rintro e w2 ⟨x, rfl, h0, h1, hT, hg⟩; have HR2 := Lib.hid (HR.out.drew hT hg))
              go_meet
              case rel => exact ⟨_, rfl, h0, HR2.out⟩
            case rest =>
              clear HR
              obtain ⟨y, rfl, hy, hR⟩ := hcut
              have HR := Lib.hid hR
              have hst0 := hR.tr
              obtain ⟨A, cap, hX, hml, hcap, hk⟩ := hst0
              have hst := set_w h c A cap _ (j : Int) y wc hR.lf hR.ok hcap hk hR.free
              rw [show setR c (j : Int) y = (upd c j (y, 0), 0) by unfold setR inB; rw [decide_eq_true (by omega)]; simp] at hst
              have HLF := Lib.hid (hR.lf.upd (x := (y, 0)) (show leafV (y, 0) by
                by_cases e : y = 0
                · subst e; exact .inl rfl
                · exact .inr ⟨e, Int.le_refl _, (show (0 : Int) ≤ 7 by decide), .inl (show 0 < y by omega)⟩) j)
              have x0 := cells_at hX 0; have x1 := cells_at hX 1; have x2 := cells_at hX 2; have x3 := cells_at hX 3; simp only [List.getElem?_toArray, List.getElem?_cons_zero, List.getElem?_cons_succ] at x0 x1 x2 x3
              clear hR hX hml hcap hk
              go_upto_region 9 with fail
              go_cut [9, 10] (fun sp sq wx => ∃ (B h' : Nat), sp = .pointer (some ⟨B, 0, none⟩) ∧ sq = .int .i64 0 ∧ TreeOk h' (upd c j (y, 0)) ∧ TR wx (fun z => w.heap.size ≤ z ∧ z ≠ Z ∧ z ≠ b ∧ z ≠ M ∧ z ≠ Z) B h' (cano h' (upd c j (y, 0))) ∧ HS w b Z M Z n h c c wx)
              case first =>
                go_wp2_with (go_at_call 30; (with_reducible refine Calls.mono hst ?_); rintro e w2 ⟨h', A', cap', rfl, ht', hc', hk', hb2⟩)
                go_meet
                case rel => exact ⟨_, h', rfl, rfl, ht', TR.new (cano_ml _ _) hc' hk', (HR.out.step hb2).alloc _⟩
              case rest =>
                clear HR hst x0 x1 x2 x3
                obtain ⟨B, h', rfl, rfl, ok', hT, hR⟩ := hcut
                have HR := Lib.hid hR
                obtain ⟨A, cap, hX, hml, hcap, hk⟩ := hT
                obtain ⟨A0, c0, g0, _⟩ := hR.tr
                have G0 := Lib.hid g0
                have HPUT := Lib.hid (hR.put HLF.out ok' hcap hk)
                have x0 := cells_at hX 0; have x1 := cells_at hX 1; have x2 := cells_at hX 2; have x3 := cells_at hX 3; simp only [List.getElem?_toArray, List.getElem?_cons_zero, List.getElem?_cons_succ] at x0 x1 x2 x3
                clear hR g0 hX hml hcap hk ok'
                go_upto_region 12 with fail
                go_cut [] (fun wx => HS w b Z M Z n h' (upd c j (y, 0)) c wx)
                case first =>
                  go_wp2_with (refine wpList_store_rowTo rfl 28 (.tmp 4) (.tmp 45) rfl rfl (Z) #[.int .i64 h', .slice A (cano h' (upd c j (y, 0))).kids.length cap, .int .i64 (cano h' (upd c j (y, 0))).val, .int .i64 (cano h' (upd c j (y, 0))).marks] rfl rfl 28 _ (G0.out) tree_size rfl (tree_one _ _ _ _ _ _) ?_)
                  go_meet
                  case rel => exact HPUT.out
                case rest =>
                  clear HPUT G0 HR x0 x1 x2 x3
                  have HR := Lib.hid hcut
                  clear hcut
                  go_upto_region 13 with fail
                  go_cut [] (fun wx => HS w b Z M Z (n + 1) h' (upd c j (y, 0)) (upd c j (y, 0)) wx)
                  case first =>
                    go_wp2_with (at_mapUpdate; refine wpList_store_mf rfl (.tmp 46) (.tmp 47) (.tmp 49) rfl M n c rfl HR.out.mp (by omega) j hj y rfl rfl ?_; intro w1 hm1 hg1; have HM1 := Lib.hid hm1; have HG1 := Lib.hid hg1; clear hm1 hg1)
                    go_meet
                    case rel => exact HR.out.stored HG1.out HM1.out
                  case rest =>
                    clear HR HLF hy
                    have HR := Lib.hid hcut
                    clear hcut
                    generalize upd c j (y, 0) = c' at *
                    go_upto_region 15 with fail
                    go_cut [51] (fun s wx => ∃ (r : Nat) (left : Lit → Bool) (cnt : Nat), s = .pointer (some ⟨r, 0, none⟩) ∧ (r ≠ b ∧ r ≠ Z ∧ r ≠ M ∧ w.heap.size ≤ r) ∧ MR wx M r (n + 1) c' left cnt ∧ HS w b Z M r (n + 1) h' c' c' wx ∧ Top c' left 0)
                    case first =>
                      go_wp2_with (at_range; refine wpList_range_mf rfl (.tmp 50) rfl M (n + 1) c' rfl HR.out.mp ?_; intro w1 left cnt hm1 hl1 hg1 hs1; have HM1 := Lib.hid hm1; have HG1 := Lib.hid hg1; have HL1 := Lib.hid (Top.start hl1); clear hm1 hg1 hl1)
                      go_meet
                      case rel => exact ⟨_, left, cnt, rfl, (by have := HR.out.tr.lt; have := HR.out.tp.lt; have := HR.out.mp.lt; have := HR.out.tp.2.1.size; omega), HM1.out, HR.out.ranged HG1.out HM1.out.mf, HL1.out⟩
                    case rest =>
                      clear HR
                      obtain ⟨r, left, cnt, rfl, hr, hM, hR, hT⟩ := hcut
                      have HM := Lib.hid hM
                      have HR := Lib.hid hR
                      have HT := Lib.hid hT
                      clear hM hR hT
                      go_wp2
                      go_loopw [11] (fun s11 wx => ∃ (top : Nat) (left : Lit → Bool) (cnt : Nat), s11 = .int .i64 top ∧ MR wx M r (n + 1) c' left cnt ∧ HS w b Z M r (n + 1) h' c' c' wx ∧ Top c' left top) (fun _ wx => wx.rangeLeft M r)
                      case atStart => exact ⟨0, left, cnt, rfl, HM.out, HR.out, HT.out⟩
                      case round =>
                        clear HR HT HM left cnt
                        obtain ⟨top, left, cnt, rfl, hM, hR, hT⟩ := hrel
                        have hlc := hM.left_eq
                        have HM := Lib.hid hM
                        have HR := Lib.hid hR
                        have HT := Lib.hid hT
                        clear hM hR hT
                        go_wp2_with (at_next; refine wpList_next_mf rfl (.tmp 51) rfl M r (n + 1) c' left cnt rfl HM.out ?_ ?_)
                        · intro hdone
                          have HD := Lib.hid hdone
                          clear hdone
                          have htop := top_lt HR.out.lf HR.out.ok HT.out.2
                          go_wp2
                          go_loopw [14, 15] (fun s14 s15 wx => ∃ k : Nat, s14 = .int .i64 k ∧ s15 = .int .i64 ((4 ^ k : Nat) : Int) ∧ k ≤ 4 ∧ (k = 0 ∨ 4 ^ (k - 1) ≤ top) ∧ HS w b Z M r (n + 1) h' c' c' wx) (fun s14 _ _ => 5 - (intOf s14).toNat)
                          case atStart => exact ⟨0, rfl, rfl, by omega, .inl rfl, HR.out⟩
                          case round =>
                            clear HR HM
                            obtain ⟨k, rfl, rfl, hk4, hk0, hR⟩ := hrel
                            have HR := Lib.hid hR
                            clear hR
                            have hp4 : 4 ^ k ≤ 256 := show 4 ^ k ≤ 4 ^ 4 from Nat.pow_le_pow_right (by omega) hk4
                            have hpk : 4 ^ (k + 1) = 4 ^ k * 4 := Nat.pow_succ 4 k
                            generalize hP : 4 ^ k = p at *
                            by_cases hle : p ≤ top
                            · have hk3 : k < 4 := by
                                rcases Nat.lt_or_ge k 4 with h | h
                                · exact h
                                · obtain rfl : k = 4 := by omega
                                  simp at hP
                                  omega
                              have e1 : wrap64 (4 * (p : Int)) = 4 * (p : Int) := IntWalk.wrap64_in _ (by omega)
                              have hle' : (p : Int) ≤ (top : Int) := by omega
                              have HPP := Lib.hid hP
                              have hc1 : ((4 ^ (k + 1) : Nat) : Int) = 4 * (p : Int) := by rw [hpk]; omega
                              have HC1 := Lib.hid hc1
                              have HLE := Lib.hid hle
                              have HK0 := Lib.hid hk0
                              clear hP hpk hp4 hc1 hle hk0
                              go_wp2
                              go_roundw
                              case rel =>
                                exact ⟨k + 1, by go_num, by rw [HC1.out], by omega, .inr (by rw [Nat.add_sub_cancel, HPP.out]; exact HLE.out), HR.out⟩
                              case measure => simp [intOf]; omega
                            · have hle' : ¬ (p : Int) ≤ (top : Int) := by omega
                              have hhk : k = h' := hgt_of_top HR.out.lf HR.out.ok HT.out HD.out (by omega) hk0
                              subst hhk
                              have HR2 := Lib.hid HR.out.back
                              have htr := HR.out.tr
                              obtain ⟨A, cap, hX, hml, hcap, hk⟩ := htr
                              have hva := valid_w (k : Int) (cano k c') A cap _ wr hml hcap hk
                              rw [valid_of HR.out.lf HR.out.ok] at hva
                              have x0 := cells_at hX 0; have x1 := cells_at hX 1; have x2 := cells_at hX 2; have x3 := cells_at hX 3; simp only [List.getElem?_toArray, List.getElem?_cons_zero, List.getElem?_cons_succ] at x0 x1 x2 x3
                              clear hX hml hcap hk hk0 hP hp4 hpk hle
                              go_wp2_with (go_at_call 15; (with_reducible refine Calls.mono hva ?_); rintro e w3 ⟨rfl, hb3⟩)
                              go_roundw
                              case rel => exact ⟨i + 1, k, n + 1, c', by go_num, by omega, by omega, HR2.out.step hb3⟩
                              case measure => simp [intOf]; omega
                        · intro x v w1 cnt1 hq hM1 hlt1 hg1 hs1 hen
                          obtain ⟨q, rfl, hq⟩ := hq
                          have HM1 := Lib.hid hM1
                          have HQ := Lib.hid hq
                          have hcl := hM1.left_eq
                          have HR1 := Lib.hid (HR.out.gb hg1 (fun k hk => by injection hk with hk; subst hk; exact ⟨.inr rfl, hr.2.1, hr.2.2.1⟩) (HR.out.tp.gb hg1 (fun k hk => by injection hk with hk; subst hk; exact ⟨hr.2.2.2, hr.1⟩)))
                          clear hM1 hg1 hq
                          cases q with
                          | false =>
                            go_wp2
                            go_roundw
                            case rel => exact ⟨top, _, cnt1, rfl, HM1.out, HR1.out, HT.out.next top (fun h => by rw [HQ.out] at h; cases h) (Nat.le_refl _) (.inl rfl)⟩
                            case measure => rw [hcl, hlc]; exact hlt1
                          | true =>
                            obtain ⟨x, rfl⟩ := Int.eq_ofNat_of_zero_le (hasB_pos HQ.out)
                            by_cases hlt2 : top < x
                            · have l2 : (top : Int) < (x : Int) := by omega
                              go_wp2
                              go_roundw
                              case rel => exact ⟨x, _, cnt1, rfl, HM1.out, HR1.out, HT.out.next x (fun _ => Int.le_refl _) (by omega) (.inr HQ.out)⟩
                              case measure => rw [hcl, hlc]; exact hlt1
                            · have l2 : ¬ (top : Int) < (x : Int) := by omega
                              go_wp2
                              go_roundw
                              case rel => exact ⟨top, _, cnt1, rfl, HM1.out, HR1.out, HT.out.next top (fun _ => by omega) (Nat.le_refl _) (.inl rfl)⟩
                              case measure => rw [hcl, hlc]; exact hlt1
end Go.Proofs.Ytpoagdffpajdjaa
