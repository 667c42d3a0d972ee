/-
  The law RadixWrites, by contracts.
-/
import Derived.Test.YtpoagdffpajdjaaRadWr
namespace Go.Proofs.Ytpoagdffpajdjaa
open Go.RowKit
set_option linter.unusedVariables false
set_option linter.unusedSimpArgs false

def idxL : List Int := [0, 1, 4, 5, 16, 63, 64, 255, 256, -1]
def mrkL : List Int := [1, 2, 4, 3, 0]
set_option maxRecDepth 100000 in
set_option maxHeartbeats 4000000 in
theorem radixWrites_walk (a0 : Option Addr) (len0 cap0 : Nat) (z0 : List Int) (n0 n1 n2 : Int) (a2 : Option Addr) (len2 cap2 : Nat) (z2 : List Int) (w : World) (w0 : IsRow .i64 w a0 len0 cap0 z0) (w2 : IsRow .i64 w a2 len2 cap2 z2) :
    Calls Try.prog 6 #[.slice a0 len0 cap0, .agg #[.int .i64 n0, .int .i64 n1, .int .i64 n2], .slice a2 len2 cap2] w fun e w' => e = .returned (.bool true) ∧ Below w.heap.size w w' := by
  obtain ⟨W, hW⟩ : ∃ W, w.alloc (.cells #[.int .i64 n0, .int .i64 n1, .int .i64 n2] 23) = W := ⟨_, rfl⟩
  have HB0 := Lib.hid (show Below w.heap.size w W by rw [← hW]; exact bl_alloc (Below.refl _ _) _)
  have hN := show W.heap[w.heap.size]? = some (.cells #[.int .i64 n0, .int .i64 n1, .int .i64 n2] 23 (0, 0)) by rw [← hW]; exact heap_alloc_at w _
  have hdr := drawn_w a0 len0 cap0 z0 n0 n1 n2 W (row_step w0 HB0.out)
  have W2 := Lib.hid (row_step w2 HB0.out)
  have y0 := cells_at hN 0
  have y1 := cells_at hN 1
  have y2 := cells_at hN 2
  simp only [List.getElem?_toArray, List.getElem?_cons_zero, List.getElem?_cons_succ] at y0 y1 y2
  clear w2
  go_enter Try.func6, Try.ntmps6
  go_upto_region 1 with fail
  go_cut [7] (fun s7 wx => ∃ (Z : Nat) (hI : Int) (t : T), s7 = .pointer (some ⟨Z, 0, none⟩) ∧ TR wx (fun z => W.heap.size ≤ z ∧ z ≠ Z) Z hI t ∧ W.heap.size ≤ Z ∧ Below W.heap.size W wx)
  case first =>
    go_wp2_with (first
      | (go_at_call 10; go_must (refine hdr.mono ?_); rintro e w1 ⟨hI, t, A, cap, rfl, h1, h2, hl, hc, hk, hb1⟩)
      | (refine wpList_store_rowTo rfl 28 (.tmp 7) (.tmp 27) rfl rfl (w1.heap.size) #[.int .i64 hI, .slice A t.kids.length cap, .int .i64 t.val, .int .i64 t.marks] rfl rfl 28 _ (heap_alloc_new _ _) tree_size rfl (tree_one _ _ _ _ _ _) ?_))
    go_meet
    case rel =>
      have hs1 := hb1.size
      refine ⟨w1.heap.size, hI, t, rfl, ⟨A, cap, setRow_heap _ _ _ _ _ _ (heap_alloc_new _ _), by unfold maxLen; omega, hc, ((hk.weak (S' := fun z => W.heap.size ≤ z ∧ z ≠ w1.heap.size) fun z hz h => ⟨h, by omega⟩).alloc _).kept (by simp [World.setRow]) (fun z hz _ => setRow_other _ _ _ _ hz.2)⟩, hs1, bl_setRow (bl_alloc hb1 _) (by omega) _⟩
  case rest =>
    clear hdr y0 y1 y2 hN
    obtain ⟨Z, hI, t, rfl, hT, hWZ, hB⟩ := hcut
    have hrs : RS W wc.heap.size Z hI t (wc.alloc (.cells #[.slice a2 len2 cap2, .int .i64 0] 32)) := by
      have hlt := hT.lt
      exact ⟨(hT.weak fun z hz h => ⟨h.1, h.2, by omega⟩).alloc _, TpP.start W2.out hB, by omega, hWZ⟩
    have HR := Lib.hid hrs
    obtain ⟨b, hb⟩ : ∃ b, b = wc.heap.size := ⟨_, rfl⟩
    have hpt : (⟨wc.heap.size, 0, none⟩ : Addr) = ⟨b, 0, none⟩ := by rw [hb]
    rw [← hb] at HR
    clear hrs hT hWZ hB W2
    go_wp2
    go_loopw [9] (fun s9 wx => ∃ (i : Nat) (hI : Int) (t : T), s9 = .int .i64 i ∧ i ≤ 6 ∧ RS W b Z hI t wx) (fun s9 _ => 6 - (intOf s9).toNat)
    case atStart => exact ⟨0, _, _, rfl, by omega, HR.out⟩
    case round =>
      clear HR
      obtain ⟨i, hI, t, rfl, hi, hR⟩ := hrel
      have HR := Lib.hid hR
      clear hR
      go_upto_region 4 with fail
      go_cut [37] (fun s37 wx => ∃ q, s37 = .bool q ∧ (q = true → i < 6) ∧ RS W b Z hI t wx)
      case first =>
        by_cases hlt : i < 6
        · have k1 : (i : Int) < 6 := by omega
          go_wp2_with (go_at_call 29; go_must (refine (end_p W _ b HR.out.tp).mono ?_); rintro e w1 ⟨q, rfl, hb1⟩)
          go_meet
          case rel => exact ⟨_, rfl, fun _ => hlt, HR.out.step hb1⟩
        · obtain rfl : i = 6 := by omega
          go_wp2
          go_meet
          case rel => exact ⟨_, rfl, fun h => (by cases h), HR.out⟩
      case rest =>
        clear HR
        obtain ⟨q, rfl, hq, hR⟩ := hcut
        have HR := Lib.hid hR
        clear hR
        cases q with
        | false =>
          clear hq
          go_wp2_with (go_at_call 26; (with_reducible refine Calls.mono (awake_w _) ?_); rintro e w9 ⟨rfl, hb9⟩)
          go_ret
          exact ⟨rfl, bl_step HB0.out (bl_step HR.out.tp.2.1 hb9)⟩
        | true =>
          have hlt := hq rfl
          clear hq hi
          go_upto_region 6 with fail
          go_cut [10] (fun s wx => ∃ x, s = .int .i64 x ∧ RS W b Z hI t wx)
          case first =>
            go_wp2_with (go_at_call 12; go_must (refine (next_p _ W _ b (by omega) (by omega) (HR.out.alloc _).tp).mono ?_); rintro e w2 ⟨x, rfl, h0, h1, hT, hg⟩; obtain ⟨j, rfl⟩ := Int.eq_ofNat_of_zero_le h0; have hj : j < idxL.length := (by simp only [idxL, List.length_cons, List.length_nil]; omega); have hc := hg.cell (ints_cell _ idxL 3 j hj) (by have := HR.out.tp.lt; simp; omega); have HR2 := Lib.hid ((HR.out.alloc _).drew hT hg); generalize idxL[j] = y at hc; clear hj)
            go_meet
            case rel => exact ⟨_, rfl, HR2.out⟩
          case rest =>
            clear HR
            obtain ⟨ix, rfl, hR⟩ := hcut
            have HR := Lib.hid hR
            clear hR
            go_upto_region 7 with fail
            go_cut [11] (fun s wx => ∃ x, s = .int .i64 x ∧ RS W b Z hI t wx)
            case first =>
              go_wp2_with (go_at_call 12; go_must (refine (next_p _ W _ b (by omega) (by omega) (HR.out.alloc _).tp).mono ?_); rintro e w2 ⟨x, rfl, h0, h1, hT, hg⟩; obtain ⟨j, rfl⟩ := Int.eq_ofNat_of_zero_le h0; have hj : j < mrkL.length := (by simp only [mrkL, List.length_cons, List.length_nil]; omega); have hc := hg.cell (ints_cell _ mrkL 3 j hj) (by have := HR.out.tp.lt; simp; omega); have HR2 := Lib.hid ((HR.out.alloc _).drew hT hg); generalize mrkL[j] = y at hc; clear hj)
              go_meet
              case rel => exact ⟨_, rfl, HR2.out⟩
            case rest =>
              clear HR
              obtain ⟨mk, rfl, hR⟩ := hcut
              have HR := Lib.hid hR
              clear hR
              go_upto_region 8 with fail
              go_cut [12] (fun s wx => ∃ x, s = .int .i64 x ∧ RS W b Z hI t wx)
              case first =>
                go_wp2_with (go_at_call 12; go_must (refine (next_p _ W _ b (by omega) (by omega) HR.out.tp).mono ?_); rintro e w2 ⟨x, rfl, h0, h1, hT, hg⟩; have HR2 := Lib.hid (HR.out.drew hT hg))
                go_meet
                case rel => exact ⟨_, rfl, HR2.out⟩
              case rest =>
                clear HR
                obtain ⟨y, rfl, hR⟩ := hcut
                have HR := Lib.hid hR
                obtain ⟨A, cap, c1, e1, c2, e2, c3, e3, hX, hst, hrst, hma, hrma, hun, hrun⟩ := hR.all ix y mk
                clear hR
                have HX := Lib.hid hX
                clear hX
                obtain ⟨V1, hV⟩ : ∃ V : World, V = wc := ⟨_, rfl⟩
                subst hV
                have HU1 := Lib.hid (Below.refl V1.heap.size V1)
                have hbV := HR.out.tp.lt
                have x0 := cells_at (bk_step HX.out HU1.out) 0; have x1 := cells_at (bk_step HX.out HU1.out) 1; have x2 := cells_at (bk_step HX.out HU1.out) 2; have x3 := cells_at (bk_step HX.out HU1.out) 3; simp only [List.getElem?_toArray, List.getElem?_cons_zero, List.getElem?_cons_succ] at x0 x1 x2 x3
                go_upto_region 9 with fail
                go_cut [13, 14] (fun sp sq wx => ∃ (B h : Nat), sp = .pointer (some ⟨B, 0, none⟩) ∧ sq = .int .i64 e1 ∧ TreeOk h c1 ∧ TR wx (SW W b Z) B h (cano h c1) ∧ V1.heap.size ≤ B ∧ Below V1.heap.size V1 wx)
                case first =>
                  go_wp2_with (go_at_call 30; go_must (refine (hst _ HU1.out).mono ?_); rintro e w2 ⟨h', A', cap', rfl, ht', hc', hk', hb2⟩)
                  go_meet
                  case rel => exact ⟨_, h', rfl, rfl, ht', TR.new (cano_ml _ _) hc' hk', hb2.size, bl_alloc hb2 _⟩
                case rest =>
                  clear x0 x1 x2 x3 hst
                  obtain ⟨B1, h1, rfl, rfl, ok1, hT1, hlB1, hb1⟩ := hcut
                  obtain ⟨V2, hV⟩ : ∃ V : World, V = wc := ⟨_, rfl⟩
                  subst hV
                  have HT1 := Lib.hid hT1
                  have Hb1 := Lib.hid hb1
                  have HU2 := Lib.hid (bl_step HU1.out hb1)
                  clear hT1 hb1
                  have x0 := cells_at (bk_step HX.out HU2.out) 0; have x1 := cells_at (bk_step HX.out HU2.out) 1; have x2 := cells_at (bk_step HX.out HU2.out) 2; have x3 := cells_at (bk_step HX.out HU2.out) 3; simp only [List.getElem?_toArray, List.getElem?_cons_zero, List.getElem?_cons_succ] at x0 x1 x2 x3
                  go_upto_region 10 with fail
                  go_cut [15, 16] (fun sp sq wx => ∃ (B h : Nat), sp = .pointer (some ⟨B, 0, none⟩) ∧ sq = .int .i64 e1 ∧ TreeOk h c1 ∧ TR wx (SW W b Z) B h (cano h c1) ∧ V2.heap.size ≤ B ∧ Below V2.heap.size V2 wx)
                  case first =>
                    go_wp2_with (go_at_call 31; go_must (refine (hrst _ HU2.out).mono ?_); rintro e w2 ⟨h', A', cap', rfl, ht', hc', hk', hb2⟩)
                    go_meet
                    case rel => exact ⟨_, h', rfl, rfl, ht', TR.new (cano_ml _ _) hc' hk', hb2.size, bl_alloc hb2 _⟩
                  case rest =>
                    clear x0 x1 x2 x3 hrst
                    obtain ⟨B2, h2, rfl, rfl, ok2, hT2, hlB2, hb2⟩ := hcut
                    obtain ⟨V3, hV⟩ : ∃ V : World, V = wc := ⟨_, rfl⟩
                    subst hV
                    have HT2 := Lib.hid hT2
                    have Hb2 := Lib.hid hb2
                    have HU3 := Lib.hid (bl_step HU2.out hb2)
                    clear hT2 hb2
                    obtain rfl : h1 = h2 := ok1.uniq ok2
                    have x0 := cells_at (bk_step HX.out HU3.out) 0; have x1 := cells_at (bk_step HX.out HU3.out) 1; have x2 := cells_at (bk_step HX.out HU3.out) 2; have x3 := cells_at (bk_step HX.out HU3.out) 3; simp only [List.getElem?_toArray, List.getElem?_cons_zero, List.getElem?_cons_succ] at x0 x1 x2 x3
                    go_upto_region 11 with fail
                    go_cut [17, 18] (fun sp sq wx => ∃ (B h : Nat), sp = .pointer (some ⟨B, 0, none⟩) ∧ sq = .int .i64 e2 ∧ TreeOk h c2 ∧ TR wx (SW W b Z) B h (cano h c2) ∧ V3.heap.size ≤ B ∧ Below V3.heap.size V3 wx)
                    case first =>
                      go_wp2_with (go_at_call 32; go_must (refine (hma _ HU3.out).mono ?_); rintro e w2 ⟨h', A', cap', rfl, ht', hc', hk', hb2⟩)
                      go_meet
                      case rel => exact ⟨_, h', rfl, rfl, ht', TR.new (cano_ml _ _) hc' hk', hb2.size, bl_alloc hb2 _⟩
                    case rest =>
                      clear x0 x1 x2 x3 hma
                      obtain ⟨B3, h3, rfl, rfl, ok3, hT3, hlB3, hb3⟩ := hcut
                      obtain ⟨V4, hV⟩ : ∃ V : World, V = wc := ⟨_, rfl⟩
                      subst hV
                      have HT3 := Lib.hid hT3
                      have Hb3 := Lib.hid hb3
                      have HU4 := Lib.hid (bl_step HU3.out hb3)
                      clear hT3 hb3
                      have x0 := cells_at (bk_step HX.out HU4.out) 0; have x1 := cells_at (bk_step HX.out HU4.out) 1; have x2 := cells_at (bk_step HX.out HU4.out) 2; have x3 := cells_at (bk_step HX.out HU4.out) 3; simp only [List.getElem?_toArray, List.getElem?_cons_zero, List.getElem?_cons_succ] at x0 x1 x2 x3
                      go_upto_region 12 with fail
                      go_cut [19, 20] (fun sp sq wx => ∃ (B h : Nat), sp = .pointer (some ⟨B, 0, none⟩) ∧ sq = .int .i64 e2 ∧ TreeOk h c2 ∧ TR wx (SW W b Z) B h (cano h c2) ∧ V4.heap.size ≤ B ∧ Below V4.heap.size V4 wx)
                      case first =>
                        go_wp2_with (go_at_call 33; go_must (refine (hrma _ HU4.out).mono ?_); rintro e w2 ⟨h', A', cap', rfl, ht', hc', hk', hb2⟩)
                        go_meet
                        case rel => exact ⟨_, h', rfl, rfl, ht', TR.new (cano_ml _ _) hc' hk', hb2.size, bl_alloc hb2 _⟩
                      case rest =>
                        clear x0 x1 x2 x3 hrma
                        obtain ⟨B4, h4, rfl, rfl, ok4, hT4, hlB4, hb4⟩ := hcut
                        obtain ⟨V5, hV⟩ : ∃ V : World, V = wc := ⟨_, rfl⟩
                        subst hV
                        have HT4 := Lib.hid hT4
                        have Hb4 := Lib.hid hb4
                        have HU5 := Lib.hid (bl_step HU4.out hb4)
                        clear hT4 hb4
                        obtain rfl : h3 = h4 := ok3.uniq ok4
                        have x0 := cells_at (bk_step HX.out HU5.out) 0; have x1 := cells_at (bk_step HX.out HU5.out) 1; have x2 := cells_at (bk_step HX.out HU5.out) 2; have x3 := cells_at (bk_step HX.out HU5.out) 3; simp only [List.getElem?_toArray, List.getElem?_cons_zero, List.getElem?_cons_succ] at x0 x1 x2 x3
                        go_upto_region 13 with fail
                        go_cut [21, 22] (fun sp sq wx => ∃ (B h : Nat), sp = .pointer (some ⟨B, 0, none⟩) ∧ sq = .int .i64 e3 ∧ TreeOk h c3 ∧ TR wx (SW W b Z) B h (cano h c3) ∧ V5.heap.size ≤ B ∧ Below V5.heap.size V5 wx)
                        case first =>
                          go_wp2_with (go_at_call 34; go_must (refine (hun _ HU5.out).mono ?_); rintro e w2 ⟨h', A', cap', rfl, ht', hc', hk', hb2⟩)
                          go_meet
                          case rel => exact ⟨_, h', rfl, rfl, ht', TR.new (cano_ml _ _) hc' hk', hb2.size, bl_alloc hb2 _⟩
                        case rest =>
                          clear x0 x1 x2 x3 hun
                          obtain ⟨B5, h5, rfl, rfl, ok5, hT5, hlB5, hb5⟩ := hcut
                          obtain ⟨V6, hV⟩ : ∃ V : World, V = wc := ⟨_, rfl⟩
                          subst hV
                          have HT5 := Lib.hid hT5
                          have Hb5 := Lib.hid hb5
                          have HU6 := Lib.hid (bl_step HU5.out hb5)
                          clear hT5 hb5
                          have x0 := cells_at (bk_step HX.out HU6.out) 0; have x1 := cells_at (bk_step HX.out HU6.out) 1; have x2 := cells_at (bk_step HX.out HU6.out) 2; have x3 := cells_at (bk_step HX.out HU6.out) 3; simp only [List.getElem?_toArray, List.getElem?_cons_zero, List.getElem?_cons_succ] at x0 x1 x2 x3
                          go_upto_region 14 with fail
                          go_cut [23, 24] (fun sp sq wx => ∃ (B h : Nat), sp = .pointer (some ⟨B, 0, none⟩) ∧ sq = .int .i64 e3 ∧ TreeOk h c3 ∧ TR wx (SW W b Z) B h (cano h c3) ∧ V6.heap.size ≤ B ∧ Below V6.heap.size V6 wx)
                          case first =>
                            go_wp2_with (go_at_call 35; go_must (refine (hrun _ HU6.out).mono ?_); rintro e w2 ⟨h', A', cap', rfl, ht', hc', hk', hb2⟩)
                            go_meet
                            case rel => exact ⟨_, h', rfl, rfl, ht', TR.new (cano_ml _ _) hc' hk', hb2.size, bl_alloc hb2 _⟩
                          case rest =>
                            clear x0 x1 x2 x3 hrun
                            obtain ⟨B6, h6, rfl, rfl, ok6, hT6, hlB6, hb6⟩ := hcut
                            obtain ⟨V7, hV⟩ : ∃ V : World, V = wc := ⟨_, rfl⟩
                            subst hV
                            have HT6 := Lib.hid hT6
                            have Hb6 := Lib.hid hb6
                            have HU7 := Lib.hid (bl_step HU6.out hb6)
                            clear hT6 hb6
                            obtain rfl : h5 = h6 := ok5.uniq ok6
                            have t6 := HT6.out
                            have q6 := Hb6.out
                            have t5 := HT5.out.step q6
                            have q5 := bl_step Hb5.out q6
                            have t4 := HT4.out.step q5
                            have q4 := bl_step Hb4.out q5
                            have t3 := HT3.out.step q4
                            have q3 := bl_step Hb3.out q4
                            have t2 := HT2.out.step q3
                            have q2 := bl_step Hb2.out q3
                            have t1 := HT1.out.step q2
                            have q1 := bl_step Hb1.out q2
                            have T2 := Lib.hid t2
                            have T4 := Lib.hid t4
                            obtain ⟨A1, d1, g1, m1, l1, k1⟩ := t1
                            obtain ⟨A2, d2, g2, m2, l2, k2⟩ := t2
                            obtain ⟨A3, d3, g3, m3, l3, k3⟩ := t3
                            obtain ⟨A4, d4, g4, m4, l4, k4⟩ := t4
                            obtain ⟨A5, d5, g5, m5, l5, k5⟩ := t5
                            obtain ⟨A6, d6, g6, m6, l6, k6⟩ := t6
                            have hs1 := fun w' (hb : Below V7.heap.size V7 w') => same_w h1 c1 A1 A2 d1 d2 w' l1 l2 ((k1.weak fun _ _ _ => trivial).step hb) ((k2.weak fun _ _ _ => trivial).step hb)
                            have hs2 := fun w' (hb : Below V7.heap.size V7 w') => same_w h3 c2 A3 A4 d3 d4 w' l3 l4 ((k3.weak fun _ _ _ => trivial).step hb) ((k4.weak fun _ _ _ => trivial).step hb)
                            have hs3 := fun w' (hb : Below V7.heap.size V7 w') => same_w h5 c3 A5 A6 d5 d6 w' l5 l6 ((k5.weak fun _ _ _ => trivial).step hb) ((k6.weak fun _ _ _ => trivial).step hb)
                            have G3 := Lib.hid g3
                            have G4 := Lib.hid g4
                            have G5 := Lib.hid g5
                            have G6 := Lib.hid g6
                            have x0 := cells_at g1 0; have x1 := cells_at g1 1; have x2 := cells_at g1 2; have x3 := cells_at g1 3; simp only [List.getElem?_toArray, List.getElem?_cons_zero, List.getElem?_cons_succ] at x0 x1 x2 x3
                            have y0 := cells_at g2 0; have y1 := cells_at g2 1; have y2 := cells_at g2 2; have y3 := cells_at g2 3; simp only [List.getElem?_toArray, List.getElem?_cons_zero, List.getElem?_cons_succ] at y0 y1 y2 y3
                            clear k1 k2 k3 k4 k5 k6 g1 g2 g3 g4 g5 g6
                            go_upto_region 15 with fail
                            go_cut [125] (fun s wx => s = .bool false ∧ Below V7.heap.size V7 wx)
                            case first =>
                              go_wp2_with (first
                                | (go_at_call 36; (with_reducible refine Calls.mono (hs1 _ (Below.refl _ _)) ?_); rintro e w3 ⟨rfl, hb3⟩; clear x0 x1 x2 x3 y0 y1 y2 y3; have x0 := cells_at (bk_step G3.out hb3) 0; have x1 := cells_at (bk_step G3.out hb3) 1; have x2 := cells_at (bk_step G3.out hb3) 2; have x3 := cells_at (bk_step G3.out hb3) 3; simp only [List.getElem?_toArray, List.getElem?_cons_zero, List.getElem?_cons_succ] at x0 x1 x2 x3; have y0 := cells_at (bk_step G4.out hb3) 0; have y1 := cells_at (bk_step G4.out hb3) 1; have y2 := cells_at (bk_step G4.out hb3) 2; have y3 := cells_at (bk_step G4.out hb3) 3; simp only [List.getElem?_toArray, List.getElem?_cons_zero, List.getElem?_cons_succ] at y0 y1 y2 y3)
                                | (go_at_call 36; (with_reducible refine Calls.mono (hs2 _ hb3) ?_); rintro e w4 ⟨rfl, hb4⟩; clear x0 x1 x2 x3 y0 y1 y2 y3; have x0 := cells_at (bk_step G5.out (bl_step hb3 hb4)) 0; have x1 := cells_at (bk_step G5.out (bl_step hb3 hb4)) 1; have x2 := cells_at (bk_step G5.out (bl_step hb3 hb4)) 2; have x3 := cells_at (bk_step G5.out (bl_step hb3 hb4)) 3; simp only [List.getElem?_toArray, List.getElem?_cons_zero, List.getElem?_cons_succ] at x0 x1 x2 x3; have y0 := cells_at (bk_step G6.out (bl_step hb3 hb4)) 0; have y1 := cells_at (bk_step G6.out (bl_step hb3 hb4)) 1; have y2 := cells_at (bk_step G6.out (bl_step hb3 hb4)) 2; have y3 := cells_at (bk_step G6.out (bl_step hb3 hb4)) 3; simp only [List.getElem?_toArray, List.getElem?_cons_zero, List.getElem?_cons_succ] at y0 y1 y2 y3)
                                | (go_at_call 36; (with_reducible refine Calls.mono (hs3 _ (bl_step hb3 hb4)) ?_); rintro e w5 ⟨rfl, hb5⟩))
                              go_meet
                              case rel => exact ⟨rfl, bl_step (bl_step hb3 hb4) hb5⟩
                            case rest =>
                              obtain ⟨rfl, hb7⟩ := hcut
                              have HR7 := Lib.hid (HR.out.step (bl_step HU7.out hb7))
                              have HT2' := Lib.hid (T2.out.step hb7)
                              have HT4' := Lib.hid (T4.out.step hb7)
                              have hB2 : B2 ≠ b := by have := Hb1.out.size; omega
                              have hB4 : B4 ≠ b := by have := Hb1.out.size; have := Hb2.out.size; have := Hb3.out.size; omega
                              clear hs1 hs2 hs3 HR HT1 HT2 HT3 HT4 HT5 HT6 Hb1 Hb2 Hb3 Hb4 Hb5 Hb6 HU1 HU2 HU3 HU4 HU5 HU6 HU7 HX T2 T4 q1 q2 q3 q4 q5 q6 G3 G4 G5 G6 x0 x1 x2 x3 y0 y1 y2 y3 hb7
                              go_upto_region 17 with fail
                              go_cut [126] (fun s wx => ∃ q, s = .bool q ∧ RS W b Z hI t wx ∧ TR wx (SW W b Z) B2 h1 (cano h1 c1) ∧ TR wx (SW W b Z) B4 h3 (cano h3 c2))
                              case first =>
                                go_wp2_with (go_at_call 12; go_must (refine (next_p _ W _ b (by omega) (by omega) HR7.out.tp).mono ?_); rintro e w2 ⟨x, rfl, z0, z1, hT, hg⟩; have HR8 := Lib.hid (HR7.out.drew hT hg); have HT8 := Lib.hid (HT2'.out.kept hg.size fun z hz hlt => hg.block z hlt (by rcases hz with hz | rfl <;> simp <;> omega)); have HT9 := Lib.hid (HT4'.out.kept hg.size fun z hz hlt => hg.block z hlt (by rcases hz with hz | rfl <;> simp <;> omega)); clear hT hg)
                                all_goals (go_meet; exact ⟨_, rfl, HR8.out, HT8.out, HT9.out⟩)
                              case rest =>
                                clear HR7 HT2' HT4'
                                obtain ⟨q, rfl, hR, hT2, hT4⟩ := hcut
                                have HR := Lib.hid hR
                                obtain ⟨A0, d0, g0, _⟩ := hR.tr
                                obtain ⟨A2, d2, g2, m2, l2, k2⟩ := hT2
                                obtain ⟨A4, d4, g4, m4, l4, k4⟩ := hT4
                                have K2 := Lib.hid k2
                                have K4 := Lib.hid k4
                                have G0 := Lib.hid g0
                                have x0 := cells_at g2 0; have x1 := cells_at g2 1; have x2 := cells_at g2 2; have x3 := cells_at g2 3; simp only [List.getElem?_toArray, List.getElem?_cons_zero, List.getElem?_cons_succ] at x0 x1 x2 x3
                                have y0 := cells_at g4 0; have y1 := cells_at g4 1; have y2 := cells_at g4 2; have y3 := cells_at g4 3; simp only [List.getElem?_toArray, List.getElem?_cons_zero, List.getElem?_cons_succ] at y0 y1 y2 y3
                                clear hR g0 g2 g4 k2 k4
                                cases q with
                                | true =>
                                  go_wp2_with (refine wpList_store_rowTo rfl 28 (.tmp 7) (.tmp 134) rfl rfl (Z) #[.int .i64 h1, .slice A2 (cano h1 c1).kids.length d2, .int .i64 (cano h1 c1).val, .int .i64 (cano h1 c1).marks] rfl rfl 28 _ (G0.out) tree_size rfl (tree_one _ _ _ _ _ _) ?_)
                                  go_roundw
                                  case rel => exact ⟨i + 1, h1, cano h1 c1, by go_num, by omega, HR.out.put m2 l2 K2.out⟩
                                  case measure => simp [intOf]; omega
                                | false =>
                                  by_cases he : e2 = 0
                                  · subst he
                                    go_wp2_with (refine wpList_store_rowTo rfl 28 (.tmp 7) (.tmp 138) rfl rfl (Z) #[.int .i64 h3, .slice A4 (cano h3 c2).kids.length d4, .int .i64 (cano h3 c2).val, .int .i64 (cano h3 c2).marks] rfl rfl 28 _ (G0.out) tree_size rfl (tree_one _ _ _ _ _ _) ?_)
                                    go_roundw
                                    case rel => exact ⟨i + 1, h3, cano h3 c2, by go_num, by omega, HR.out.put m4 l4 K4.out⟩
                                    case measure => simp [intOf]; omega
                                  · go_wp2
                                    go_roundw
                                    case rel => exact ⟨i + 1, hI, t, by go_num, by omega, HR.out⟩
                                    case measure => simp [intOf]; omega
end Go.Proofs.Ytpoagdffpajdjaa
