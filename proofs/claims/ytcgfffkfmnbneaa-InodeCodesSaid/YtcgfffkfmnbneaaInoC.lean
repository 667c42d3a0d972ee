/-
  The law InodeCodes: the walk.
-/
import Derived.Test.YtcgfffkfmnbneaaInoA
import Derived.Test.YtcgfffkfmnbneaaInoS
import Derived.Deep.CutBlock
namespace Go.Proofs.Ytcgfffkfmnbneaa
open Go.RowKit
set_option linter.unusedVariables false
set_option linter.unusedSimpArgs false

def RetCC (q s b n : Int) (o : Bool) (w : World) (e : Ending) (w' : World) : Prop := e = .returned (.tuple #[.agg #[.int .i64 q, .int .i64 s, .int .i64 b], .int .i64 n, .bool o]) ∧ Below w.heap.size w w'
/-- What the law leans on: both packages answer alike. -/
theorem codes_pack (q s b f : Int) (S T : ByteArray) (hS : S.size ≤ maxLen) (hT : T.size ≤ maxLen) :
    ∃ (S1 : ByteArray) (E1 : Int) (ok : Bool) (q1 s1 b1 q2 s2 b2 n2 : Int) (o2 : Bool) (q3 s3 b3 e3 : Int),
      (∀ w, Calls Try.prog 11 #[.agg #[.int .i64 q, .int .i64 s, .int .i64 b], .int .i64 f] w (RetSE S1 E1 w)) ∧
      (∀ w, Calls Try.prog 12 #[.agg #[.int .i64 q, .int .i64 s, .int .i64 b], .int .i64 f] w (RetSE S1 E1 w)) ∧
      (∀ w, Calls Try.prog 13 #[.string S, .int .i64 f] w (RetD ok q1 s1 b1 w)) ∧ (∀ w, Calls Try.prog 14 #[.string S, .int .i64 f] w (RetD ok q1 s1 b1 w)) ∧
      (∀ w, Calls Try.prog 15 #[.string S, .string T, .int .i64 f] w (RetCC q2 s2 b2 n2 o2 w)) ∧ (∀ w, Calls Try.prog 16 #[.string S, .string T, .int .i64 f] w (RetCC q2 s2 b2 n2 o2 w)) ∧
      (∀ w, Calls Try.prog 17 #[.agg #[.int .i64 q, .int .i64 s, .int .i64 b]] w (RetIE q3 s3 b3 e3 w)) ∧ (∀ w, Calls Try.prog 18 #[.agg #[.int .i64 q, .int .i64 s, .int .i64 b]] w (RetIE q3 s3 b3 e3 w)) :=
  ⟨_, _, _, _, _, _, _, _, _, _, _, _, _, _, _, encode_w q s b f, rencode_w q s b f, fun w => decode_w S f w hS, fun w => rdecode_w S f w hS, fun w => choose_w S T f w hS hT, fun w => rchoose_w S T f w hS hT, inext_w q s b, irnext_w q s b⟩

set_option maxRecDepth 100000 in
set_option maxHeartbeats 4000000 in
theorem inodeCodes_walk (a0 : Option Addr) (len0 cap0 : Nat) (z0 : List Int) (a1 : Int) (w : World) (w0 : IsRow .i64 w a0 len0 cap0 z0) :
    Calls Try.prog 3 #[.slice a0 len0 cap0, .int .i64 a1] w fun e w' => e = .returned (.bool true) ∧ Below w.heap.size w w' := by
  have hT0 := Tp.start w0
  clear w0
  have ⟨f0, f1⟩ := cutI_range a1 10 (by omega)
  have cc := fun (x n : Int) (h1 : 1 ≤ n) (h2 : n ≤ 9223372036854775807) (w : World) => cut_w x n w h1 h2
  have cA := cc a1 10 (by omega) (by omega)
  have cB := fun x => cc x 8 (by omega) (by omega)
  have cC := cc a1 3 (by omega) (by omega)
  clear cc
  generalize cutI a1 10 = F at f0 f1 cA
  go_enter Try.func3, Try.ntmps3
  go_upto_region 3 with (go_at_call 8; (with_reducible refine Calls.mono (cA _) ?_); rintro e w' ⟨rfl, rfl⟩)
  go_cut [7] (fun s7 wx => ∃ A q s b, s7 = .pointer (some ⟨A, 0, none⟩) ∧ A ≠ w.heap.size ∧ IAt wx A q s b ∧ Tp w w.heap.size wx)
  case first =>
    go_wp2_with (go_at_call 9; refine (drawn_w w _ _ hT0).mono ?_; rintro e w2 ⟨q, s, b, rfl, hT2, hg2⟩)
    go_meet
    case rel => exact ⟨_, _, _, _, rfl, by have := hT2.lt; omega, IAt.new _ _ _ _ _ rfl, hT2.alloc _⟩
  case rest =>
    obtain ⟨A, q, s, b, rfl, hA, iA, hT⟩ := hcut
    clear hT0
    go_upto_region 5 with (go_at_call 8; (with_reducible refine Calls.mono (cB _ _) ?_); rintro e w' ⟨rfl, rfl⟩)
    go_cut [9, 10] (fun s9 s10 wx => ∃ S T : ByteArray, s9 = .string S ∧ s10 = .string T ∧ S.size ≤ maxLen ∧ T.size ≤ maxLen ∧ IAt wx A q s b ∧ Tp w w.heap.size wx)
    case first =>
      have HA := Lib.hid iA
      clear iA
      go_wp2_with (first
        | (go_at_call 10; refine (sector_w w _ _ _ hT).mono ?_; rintro e w2 ⟨S, rfl, hS, hT2, hg2⟩; clear hT)
        | (go_at_call 10; refine (sector_w w _ _ _ hT2).mono ?_; rintro e w3 ⟨T, rfl, hS3, hT3, hg3⟩))
      go_meet
      case rel => exact ⟨_, _, rfl, rfl, by unfold maxLen; omega, by unfold maxLen; omega, (HA.out.grown hg2 hA).grown hg3 hA, hT3⟩
    case rest =>
      clear iA hT
      obtain ⟨S, T, rfl, rfl, hS, hT', iA, hT⟩ := hcut
      go_upto_region 6 with fail
      go_cut [6, 58] (fun s6 s58 wx => ∃ (f : Int) (m : Bool), s6 = .int .i64 f ∧ s58 = .bool m ∧ IAt wx A q s b ∧ Tp w w.heap.size wx)
      case first =>
        go_wp2_with (go_at_call 8; (with_reducible refine Calls.mono (cC _) ?_); rintro e w' ⟨rfl, rfl⟩)
        all_goals
          go_meet
          case rel => exact ⟨_, _, rfl, rfl, iA, hT⟩
      case rest =>
       clear iA hT
       obtain ⟨f', m, rfl, rfl, iA, hT⟩ := hcut
       go_upto_if 58 with fail
       go_cut [6] (fun s6 wx => ∃ f, s6 = .int .i64 f ∧ IAt wx A q s b ∧ Tp w w.heap.size wx)
       case first =>
        cases m
        all_goals
          go_wp2
          go_meet
          case rel => exact ⟨_, rfl, iA, hT⟩
       case rest =>
        clear iA hT
        obtain ⟨f, rfl, iA, hT⟩ := hcut
        obtain ⟨S1, E1, ok, q1, s1, b1, q2, s2, b2, n2, o2, q3, s3, b3, e3, c1, c2, c3, c4, c5, c6, c7, c8⟩ := codes_pack q s b f S T hS hT'
        go_upto_region 8 with fail
        go_cut [11, 12] (fun s11 s12 wx => s11 = .string S1 ∧ s12 = .int .i64 E1 ∧ IAt wx A q s b ∧ Tp w w.heap.size wx)
        case first =>
          as_aux_lemma =>
            obtain ⟨p0, p1, p2⟩ := iA.cell
            have HA := Lib.hid iA
            clear iA
            go_wp2_with (go_at_call 11; (with_reducible refine Calls.mono (c1 _) ?_); rintro e wn ⟨rfl, hb⟩)
            go_meet
            case rel => exact ⟨rfl, rfl, IAt.step hb HA.out, hT.step hb⟩
        case rest =>
          clear iA hT
          obtain ⟨rfl, rfl, iA, hT⟩ := hcut
          clear c1
          go_upto_region 9 with fail
          go_cut [13, 14] (fun s13 s14 wx => s13 = .string S1 ∧ s14 = .int .i64 E1 ∧ IAt wx A q s b ∧ Tp w w.heap.size wx)
          case first =>
            as_aux_lemma =>
              obtain ⟨p0, p1, p2⟩ := iA.cell
              have HA := Lib.hid iA
              clear iA
              go_wp2_with (go_at_call 12; (with_reducible refine Calls.mono (c2 _) ?_); rintro e wn ⟨rfl, hb⟩)
              go_meet
              case rel => exact ⟨rfl, rfl, IAt.step hb HA.out, hT.step hb⟩
          case rest =>
            clear iA hT
            obtain ⟨rfl, rfl, iA, hT⟩ := hcut
            clear c2
            go_upto_region 10 with fail
            go_cut [15, 16] (fun s15 s16 wx => ∃ B1, s15 = .pointer (some ⟨B1, 0, none⟩) ∧ s16 = .bool ok ∧ B1 ≠ w.heap.size ∧ IAt wx A q s b ∧ IAt wx B1 q1 s1 b1 ∧ Tp w w.heap.size wx)
            case first =>
              as_aux_lemma =>
                have HA := Lib.hid iA
                clear iA
                go_wp2_with (go_at_call 13; (with_reducible refine Calls.mono (c3 _) ?_); rintro e wn ⟨rfl, hb⟩)
                go_meet
                case rel => exact ⟨_, rfl, rfl, by have := (hT.step hb).lt; omega, (IAt.step hb HA.out).alloc _, IAt.new _ _ _ _ _ rfl, (hT.step hb).alloc _⟩
            case rest =>
              clear iA hT
              obtain ⟨B1, rfl, rfl, nB1, iA, iB1, hT⟩ := hcut
              clear c3
              go_upto_region 11 with fail
              go_cut [17, 18] (fun s17 s18 wx => ∃ B2, s17 = .pointer (some ⟨B2, 0, none⟩) ∧ s18 = .bool ok ∧ B2 ≠ w.heap.size ∧ IAt wx A q s b ∧ IAt wx B1 q1 s1 b1 ∧ IAt wx B2 q1 s1 b1 ∧ Tp w w.heap.size wx)
              case first =>
                as_aux_lemma =>
                  have HA := Lib.hid iA
                  have HB1 := Lib.hid iB1
                  clear iA iB1
                  go_wp2_with (go_at_call 14; (with_reducible refine Calls.mono (c4 _) ?_); rintro e wn ⟨rfl, hb⟩)
                  go_meet
                  case rel => exact ⟨_, rfl, rfl, by have := (hT.step hb).lt; omega, (IAt.step hb HA.out).alloc _, (IAt.step hb HB1.out).alloc _, IAt.new _ _ _ _ _ rfl, (hT.step hb).alloc _⟩
              case rest =>
                clear iA iB1 hT
                obtain ⟨B2, rfl, rfl, nB2, iA, iB1, iB2, hT⟩ := hcut
                clear c4
                go_upto_region 12 with fail
                go_cut [19, 20, 21] (fun s19 s20 s21 wx => ∃ B3, s19 = .pointer (some ⟨B3, 0, none⟩) ∧ s20 = .int .i64 n2 ∧ s21 = .bool o2 ∧ B3 ≠ w.heap.size ∧ IAt wx A q s b ∧ IAt wx B1 q1 s1 b1 ∧ IAt wx B2 q1 s1 b1 ∧ IAt wx B3 q2 s2 b2 ∧ Tp w w.heap.size wx)
                case first =>
                  as_aux_lemma =>
                    have HA := Lib.hid iA
                    have HB1 := Lib.hid iB1
                    have HB2 := Lib.hid iB2
                    clear iA iB1 iB2
                    go_wp2_with (go_at_call 15; (with_reducible refine Calls.mono (c5 _) ?_); rintro e wn ⟨rfl, hb⟩)
                    go_meet
                    case rel => exact ⟨_, rfl, rfl, rfl, by have := (hT.step hb).lt; omega, (IAt.step hb HA.out).alloc _, (IAt.step hb HB1.out).alloc _, (IAt.step hb HB2.out).alloc _, IAt.new _ _ _ _ _ rfl, (hT.step hb).alloc _⟩
                case rest =>
                  clear iA iB1 iB2 hT
                  obtain ⟨B3, rfl, rfl, rfl, nB3, iA, iB1, iB2, iB3, hT⟩ := hcut
                  clear c5
                  go_upto_region 13 with fail
                  go_cut [22, 23, 24] (fun s22 s23 s24 wx => ∃ B4, s22 = .pointer (some ⟨B4, 0, none⟩) ∧ s23 = .int .i64 n2 ∧ s24 = .bool o2 ∧ B4 ≠ w.heap.size ∧ IAt wx A q s b ∧ IAt wx B1 q1 s1 b1 ∧ IAt wx B2 q1 s1 b1 ∧ IAt wx B3 q2 s2 b2 ∧ IAt wx B4 q2 s2 b2 ∧ Tp w w.heap.size wx)
                  case first =>
                    as_aux_lemma =>
                      have HA := Lib.hid iA
                      have HB1 := Lib.hid iB1
                      have HB2 := Lib.hid iB2
                      have HB3 := Lib.hid iB3
                      clear iA iB1 iB2 iB3
                      go_wp2_with (go_at_call 16; (with_reducible refine Calls.mono (c6 _) ?_); rintro e wn ⟨rfl, hb⟩)
                      go_meet
                      case rel => exact ⟨_, rfl, rfl, rfl, by have := (hT.step hb).lt; omega, (IAt.step hb HA.out).alloc _, (IAt.step hb HB1.out).alloc _, (IAt.step hb HB2.out).alloc _, (IAt.step hb HB3.out).alloc _, IAt.new _ _ _ _ _ rfl, (hT.step hb).alloc _⟩
                  case rest =>
                    clear iA iB1 iB2 iB3 hT
                    obtain ⟨B4, rfl, rfl, rfl, nB4, iA, iB1, iB2, iB3, iB4, hT⟩ := hcut
                    clear c6
                    go_upto_region 14 with fail
                    go_cut [25, 26] (fun s25 s26 wx => ∃ B5, s25 = .pointer (some ⟨B5, 0, none⟩) ∧ s26 = .int .i64 e3 ∧ B5 ≠ w.heap.size ∧ IAt wx A q s b ∧ IAt wx B1 q1 s1 b1 ∧ IAt wx B2 q1 s1 b1 ∧ IAt wx B3 q2 s2 b2 ∧ IAt wx B4 q2 s2 b2 ∧ IAt wx B5 q3 s3 b3 ∧ Tp w w.heap.size wx)
                    case first =>
                      as_aux_lemma =>
                        obtain ⟨p0, p1, p2⟩ := iA.cell
                        have HA := Lib.hid iA
                        have HB1 := Lib.hid iB1
                        have HB2 := Lib.hid iB2
                        have HB3 := Lib.hid iB3
                        have HB4 := Lib.hid iB4
                        clear iA iB1 iB2 iB3 iB4
                        go_wp2_with (go_at_call 17; (with_reducible refine Calls.mono (c7 _) ?_); rintro e wn ⟨rfl, hb⟩)
                        go_meet
                        case rel => exact ⟨_, rfl, rfl, by have := (hT.step hb).lt; omega, (IAt.step hb HA.out).alloc _, (IAt.step hb HB1.out).alloc _, (IAt.step hb HB2.out).alloc _, (IAt.step hb HB3.out).alloc _, (IAt.step hb HB4.out).alloc _, IAt.new _ _ _ _ _ rfl, (hT.step hb).alloc _⟩
                    case rest =>
                      clear iA iB1 iB2 iB3 iB4 hT
                      obtain ⟨B5, rfl, rfl, nB5, iA, iB1, iB2, iB3, iB4, iB5, hT⟩ := hcut
                      clear c7
                      go_upto_region 15 with fail
                      go_cut [27, 28] (fun s27 s28 wx => ∃ B6, s27 = .pointer (some ⟨B6, 0, none⟩) ∧ s28 = .int .i64 e3 ∧ B6 ≠ w.heap.size ∧ IAt wx A q s b ∧ IAt wx B1 q1 s1 b1 ∧ IAt wx B2 q1 s1 b1 ∧ IAt wx B3 q2 s2 b2 ∧ IAt wx B4 q2 s2 b2 ∧ IAt wx B5 q3 s3 b3 ∧ IAt wx B6 q3 s3 b3 ∧ Tp w w.heap.size wx)
                      case first =>
                        as_aux_lemma =>
                          obtain ⟨p0, p1, p2⟩ := iA.cell
                          have HA := Lib.hid iA
                          have HB1 := Lib.hid iB1
                          have HB2 := Lib.hid iB2
                          have HB3 := Lib.hid iB3
                          have HB4 := Lib.hid iB4
                          have HB5 := Lib.hid iB5
                          clear iA iB1 iB2 iB3 iB4 iB5
                          go_wp2_with (go_at_call 18; (with_reducible refine Calls.mono (c8 _) ?_); rintro e wn ⟨rfl, hb⟩)
                          go_meet
                          case rel => exact ⟨_, rfl, rfl, by have := (hT.step hb).lt; omega, (IAt.step hb HA.out).alloc _, (IAt.step hb HB1.out).alloc _, (IAt.step hb HB2.out).alloc _, (IAt.step hb HB3.out).alloc _, (IAt.step hb HB4.out).alloc _, (IAt.step hb HB5.out).alloc _, IAt.new _ _ _ _ _ rfl, (hT.step hb).alloc _⟩
                      case rest =>
                        clear iA iB1 iB2 iB3 iB4 iB5 hT
                        obtain ⟨B6, rfl, rfl, nB6, iA, iB1, iB2, iB3, iB4, iB5, iB6, hT⟩ := hcut
                        clear c8
                        go_upto_region 16 with fail
                        go_cut [29] (fun s29 wx => ∃ k, s29 = .int .i64 k ∧ IAt wx A q s b ∧ IAt wx B1 q1 s1 b1 ∧ IAt wx B2 q1 s1 b1 ∧ IAt wx B3 q2 s2 b2 ∧ IAt wx B4 q2 s2 b2 ∧ IAt wx B5 q3 s3 b3 ∧ IAt wx B6 q3 s3 b3 ∧ Tp w w.heap.size wx)
                        case first =>
                          as_aux_lemma =>
                            have HA := Lib.hid iA
                            have HB1 := Lib.hid iB1
                            have HB2 := Lib.hid iB2
                            have HB3 := Lib.hid iB3
                            have HB4 := Lib.hid iB4
                            have HB5 := Lib.hid iB5
                            have HB6 := Lib.hid iB6
                            clear iA iB1 iB2 iB3 iB4 iB5 iB6
                            go_wp2_with (go_at_call 19; refine (next_t _ w _ _ (by omega) (by omega) hT).mono ?_; rintro e wn ⟨x, rfl, x0, x1, hTn, hg⟩)
                            go_meet
                            case rel => exact ⟨_, rfl, IAt.grown hg hA HA.out, IAt.grown hg nB1 HB1.out, IAt.grown hg nB2 HB2.out, IAt.grown hg nB3 HB3.out, IAt.grown hg nB4 HB4.out, IAt.grown hg nB5 HB5.out, IAt.grown hg nB6 HB6.out, hTn⟩
                        case rest =>
                          clear iA iB1 iB2 iB3 iB4 iB5 iB6 hT
                          obtain ⟨k, rfl, iA, iB1, iB2, iB3, iB4, iB5, iB6, hT⟩ := hcut
                          have t1 := fun w => torn_w S T k w hS hT'
                          have t2 := fun w => rtorn_w S T k w hS hT'
                          generalize toS S T k = S4 at t1 t2
                          generalize toE S T k = E4 at t1 t2
                          have HA := Lib.hid iA
                          have HB1 := Lib.hid iB1
                          have HB2 := Lib.hid iB2
                          have HB3 := Lib.hid iB3
                          have HB4 := Lib.hid iB4
                          have HB5 := Lib.hid iB5
                          have HB6 := Lib.hid iB6
                          have hW := hT.below
                          clear iA iB1 iB2 iB3 iB4 iB5 iB6 hT hS hT'
                          as_aux_lemma =>
                            go_wp2_with (first
                              | (go_at_call 20; (with_reducible refine Calls.mono (t1 _) ?_); rintro e w1 ⟨rfl, hb1⟩)
                              | (go_at_call 21; (with_reducible refine Calls.mono (t2 _) ?_); rintro e w2 ⟨rfl, hb2⟩; obtain ⟨b1a, b1b, b1c⟩ := (IAt.step hb2 (IAt.step hb1 HB1.out)).cell; have b1l := (IAt.step hb2 (IAt.step hb1 HB1.out)).lt; obtain ⟨b2a, b2b, b2c⟩ := (IAt.step hb2 (IAt.step hb1 HB2.out)).cell; have b2l := (IAt.step hb2 (IAt.step hb1 HB2.out)).lt; obtain ⟨b3a, b3b, b3c⟩ := (IAt.step hb2 (IAt.step hb1 HB3.out)).cell; have b3l := (IAt.step hb2 (IAt.step hb1 HB3.out)).lt; obtain ⟨b4a, b4b, b4c⟩ := (IAt.step hb2 (IAt.step hb1 HB4.out)).cell; have b4l := (IAt.step hb2 (IAt.step hb1 HB4.out)).lt; obtain ⟨b5a, b5b, b5c⟩ := (IAt.step hb2 (IAt.step hb1 HB5.out)).cell; have b5l := (IAt.step hb2 (IAt.step hb1 HB5.out)).lt; obtain ⟨b6a, b6b, b6c⟩ := (IAt.step hb2 (IAt.step hb1 HB6.out)).cell; have b6l := (IAt.step hb2 (IAt.step hb1 HB6.out)).lt)
                              | (go_at_call 22; (with_reducible refine Calls.mono (awake_w _) ?_); rintro e w9 ⟨rfl, hb9⟩))
                            go_ret
                            exact ⟨rfl, bl_step (bl_step (bl_step hW hb1) hb2) hb9⟩

end Go.Proofs.Ytcgfffkfmnbneaa
