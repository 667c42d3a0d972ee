/-
  The reference's Split, by contract.
-/
import Derived.Test.YtjnaphhbkbigcaaLay4
namespace Go.Proofs.Ytjnaphhbkbigcaa
open Go.RowKit
set_option linter.unusedVariables false
set_option linter.unusedSimpArgs false

theorem splitP_none {most : Int} (h : most < 1) : ∀ (l : List Sp), splitP most l = []
  | [] => rfl
  | x :: l => by
    have := splitP_none h l
    unfold splitP at this ⊢
    simp only [List.flatMap_cons, this, List.append_nil]
    unfold pieceP
    rw [if_pos (by simp [outB, h])]
set_option maxRecDepth 100000 in
set_option maxHeartbeats 2000000 in
theorem rSplit_w (v : Value) (l : List Sp) (most : Int) (w : World) (h : SpA w v l) (hl : l.length ≤ 1000) :
    Calls Try.prog 23 #[v, .int .i64 most] w (RetSp (splitP most l) w) := by
  obtain ⟨A, cap, rfl, hm, hR⟩ := h
  obtain ⟨i0, hi, hz0, hz1, hz2⟩ := info_parts sp_info
  have H0 := Lib.hid hR
  clear hR hm
  by_cases q0 : most < 1
  · have HN := Lib.hid (splitP_none q0 l)
    go_enter Try.func23, Try.ntmps23
    go_wp2
    go_ret
    exact ⟨_, rfl, by rw [HN.out]; exact SpA.nil _, Below.refl _ _⟩
  · go_enter Try.func23, Try.ntmps23
    go_wp2
    go_loopw [5, 6] (fun s5 s6 wx => ∃ i : Nat, i ≤ l.length ∧ s6 = .int .i64 i ∧ wx.ownsRow w.heap.size 36 2 s5 (splitP most (l.take i)).length (sps (splitP most (l.take i))) ∧ Below w.heap.size w wx) (fun _ s6 _ => l.length - (intOf s6).toNat)
    case atStart => exact ⟨0, by omega, rfl, World.ownsRow_nil _ _ _ _, Below.refl _ _⟩
    case round =>
      obtain ⟨i, hil, rfl, hown, hW⟩ := hrel
      have Hown := Lib.hid hown
      have HW := Lib.hid hW
      have hlen := splitP_len most (l.take i)
      rw [List.length_take] at hlen
      by_cases hlt : i < l.length
      · obtain ⟨b, s, c, rfl, lb, he, c0, c1⟩ := (H0.out.step hW).at_ hlt
        have Hst := Lib.hid (splitP_take (most := most) he)
        have He := Lib.hid he
        have z0 : (0 : Int) ≤ (i : Int) := by omega
        have z1 : (i : Int) < (l.length : Int) := by omega
        clear hown hW he
        go_upto_region 7 with fail
        go_cut [44] from 17 to 75 (fun s44 wx => ∃ t, s44 = .bool t ∧ outB most (s, c) = t ∧ wx.ownsRow w.heap.size 36 2 u5 (splitP most (l.take i)).length (sps (splitP most (l.take i))) ∧ Below w.heap.size w wx)
        case first =>
          by_cases q2 : s < 0
          · have HT := Lib.hid (show outB most (s, c) = true by simp [outB, q2])
            have e2 : decide (s < 0) = true := decide_eq_true q2
            clear q2
            go_quiet (fail)
            go_wp2
            go_meet
            case rel => exact ⟨_, rfl, HT.out, own_step Hown.out (below_drewN (Below.refl _ _) _), below_drewN HW.out _⟩
          · have e2 : decide (s < 0) = false := decide_eq_false q2
            by_cases q3 : 128 < s
            · have HT := Lib.hid (show outB most (s, c) = true by simp [outB, q3])
              have e3 : decide (128 < s) = true := decide_eq_true q3
              clear q3 q2
              go_quiet (fail)
              go_wp2
              go_meet
              case rel => exact ⟨_, rfl, HT.out, own_step Hown.out (below_drewN (Below.refl _ _) _), below_drewN HW.out _⟩
            · have e3 : decide (128 < s) = false := decide_eq_false q3
              have w1 := w64 (x := 128 - s) (by omega)
              have HT := Lib.hid (show decide (128 - s < c) = outB most (s, c) by rw [Bool.eq_iff_iff]; simp [outB]; omega)
              clear q3 q2
              go_quiet (fail)
              go_wp2
              go_meet
              case rel => exact ⟨_, rfl, HT.out.symm, own_step Hown.out (below_drewN (Below.refl _ _) _), below_drewN HW.out _⟩
        case rest =>
          clear Hown HW
          obtain ⟨t, rfl, ht, hown, hW⟩ := hcut
          have Hown := Lib.hid hown
          have HW := Lib.hid hW
          clear hown hW c0 c1
          cases t with
          | true =>
            have HE := Lib.hid (show splitP most (l.take (i + 1)) = splitP most (l.take i) by rw [Hst.out]; unfold pieceP; rw [if_pos ht, List.append_nil])
            clear ht
            go_wp2
            go_roundw
            case rel => exact ⟨i + 1, by omega, by go_num, by rw [HE.out]; exact Hown.out, HW.out⟩
            case measure => simp [intOf]; omega
          | false =>
            have hno : ¬ (most < 1 ∨ s < 0 ∨ 128 < s ∨ 128 - s < c) := by simpa [outB] using ht
            have HE := Lib.hid (show splitP most (l.take (i + 1)) = splitP most (l.take i) ++ cutP most c.toNat s c by rw [Hst.out]; unfold pieceP; rw [if_neg (by rw [ht]; simp)])
            have HL := Lib.hid (splitP_len most (l.take (i + 1)))
            clear ht Hst
            go_wp2
            go_loopw [5, 7] (fun s5 s7 wx => ∃ (acc : List Sp) (d : Int) (f : Nat), s7 = .int .i64 d ∧ wx.ownsRow w.heap.size 36 2 s5 acc.length (sps acc) ∧ splitP most (l.take (i + 1)) = acc ++ cutP most f (s + d) (c - d) ∧ c - d ≤ f ∧ 0 ≤ d ∧ (0 < c → d ≤ c) ∧ Below w.heap.size w wx) (fun _ s7 _ => (c - intOf s7).toNat)
            case atStart => exact ⟨_, 0, c.toNat, rfl, Hown.out, by rw [HE.out, Int.add_zero, Int.sub_zero], by omega, by omega, by omega, HW.out⟩
            case round =>
              clear Hown HW
              obtain ⟨acc, d, f, rfl, hown, hE, hf, hd0, hd1, hW⟩ := hrel
              have Hown := Lib.hid hown
              have HW := Lib.hid hW
              have HE2 := Lib.hid hE
              have hacc : acc.length ≤ 128 * 1000 := by
                have h1 := HL.out
                rw [hE, List.length_append, List.length_take] at h1
                omega
              obtain ⟨b', s', c', eb, lb', he', c0, c1⟩ := (H0.out.step hW).at_ hlt
              rw [He.out] at he'
              simp only [Option.some.injEq, Prod.mk.injEq, Addr.mk.injEq, and_true] at he' eb
              obtain ⟨rfl, rfl⟩ := he'
              obtain rfl := eb
              clear hown hW hE
              by_cases hc : d < c
              · have w1 := w64 (x := c - d) (by omega)
                obtain ⟨f, rfl⟩ : ∃ g, f = g + 1 := ⟨f - 1, by omega⟩
                by_cases hmn : c - d ≤ most
                · by_cases hmn2 : c - d < most
                  · skip
                    have HE3 := Lib.hid (show splitP most (l.take (i + 1)) = (acc ++ [(s + d, (c - d))]) ++ cutP most f (s + (d + (c - d))) (c - (d + (c - d))) by
                      rw [HE2.out]
                      simp only [cutP]
                      rw [if_pos (show 0 < c - d by omega), show min (c - d) most = (c - d) by omega, show s + d + (c - d) = s + (d + (c - d)) by omega, show c - d - (c - d) = c - (d + (c - d)) by omega]
                      simp)
                    have w2 := w64 (x := s + d) (by omega)
                    have w3 := w64 (x := d + (c - d)) (by omega)
                    have hSz := HW.out.size
                    go_wp2_with (at_builtin; go_loud (refine wpList_append_lies _ rfl (.tmp 61) (.tmp 71) 34 rfl w.heap.size 36 i0 _ 2 16 Try.underlying34 hi hz0 hz1 hz2 rfl (by omega) _ acc.length (sps acc) rfl (Hown.out.alloc _) ⟨_, 0, none⟩ 1 1 [.int .i64 (s + d), .int .i64 ((c - d))] rfl rfl (World.news_of_block (heap_at_new _ _ _ (by first | rfl | simp))) (by simp [Value.oneCell']) (by omega) (by unfold maxLen; omega) (by omega) (by simp; omega) _ rfl ?_); intro gg cap4 w4 hown4 hg4 hat4 hlt4)
                    go_roundw
                    case rel => exact ⟨acc ++ [(s + d, (c - d))], d + (c - d), f, rfl, own_sp hown4, HE3.out, by omega, by omega, by omega, (HW.out.alloc hSz _).grown hg4 (by simp; omega) (fun g hg => (Hown.out.lt g hg).1)⟩
                    case measure => simp [intOf]; omega
                  · have hmn3 : ¬ most < c - d := by omega
                    have HE3 := Lib.hid (show splitP most (l.take (i + 1)) = (acc ++ [(s + d, most)]) ++ cutP most f (s + (d + most)) (c - (d + most)) by
                      rw [HE2.out]
                      simp only [cutP]
                      rw [if_pos (show 0 < c - d by omega), show min (c - d) most = most by omega, show s + d + most = s + (d + most) by omega, show c - d - most = c - (d + most) by omega]
                      simp)
                    have w2 := w64 (x := s + d) (by omega)
                    have w3 := w64 (x := d + most) (by omega)
                    have hSz := HW.out.size
                    go_wp2_with (at_builtin; go_loud (refine wpList_append_lies _ rfl (.tmp 61) (.tmp 71) 34 rfl w.heap.size 36 i0 _ 2 16 Try.underlying34 hi hz0 hz1 hz2 rfl (by omega) _ acc.length (sps acc) rfl (Hown.out.alloc _) ⟨_, 0, none⟩ 1 1 [.int .i64 (s + d), .int .i64 (most)] rfl rfl (World.news_of_block (heap_at_new _ _ _ (by first | rfl | simp))) (by simp [Value.oneCell']) (by omega) (by unfold maxLen; omega) (by omega) (by simp; omega) _ rfl ?_); intro gg cap4 w4 hown4 hg4 hat4 hlt4)
                    go_roundw
                    case rel => exact ⟨acc ++ [(s + d, most)], d + most, f, rfl, own_sp hown4, HE3.out, by omega, by omega, by omega, (HW.out.alloc hSz _).grown hg4 (by simp; omega) (fun g hg => (Hown.out.lt g hg).1)⟩
                    case measure => simp [intOf]; omega
                · have hmn2 : most < c - d := by omega
                  have HE3 := Lib.hid (show splitP most (l.take (i + 1)) = (acc ++ [(s + d, most)]) ++ cutP most f (s + (d + most)) (c - (d + most)) by
                    rw [HE2.out]
                    simp only [cutP]
                    rw [if_pos (show 0 < c - d by omega), show min (c - d) most = most by omega, show s + d + most = s + (d + most) by omega, show c - d - most = c - (d + most) by omega]
                    simp)
                  have w2 := w64 (x := s + d) (by omega)
                  have w3 := w64 (x := d + most) (by omega)
                  have hSz := HW.out.size
                  go_wp2_with (at_builtin; go_loud (refine wpList_append_lies _ rfl (.tmp 61) (.tmp 71) 34 rfl w.heap.size 36 i0 _ 2 16 Try.underlying34 hi hz0 hz1 hz2 rfl (by omega) _ acc.length (sps acc) rfl (Hown.out.alloc _) ⟨_, 0, none⟩ 1 1 [.int .i64 (s + d), .int .i64 (most)] rfl rfl (World.news_of_block (heap_at_new _ _ _ (by first | rfl | simp))) (by simp [Value.oneCell']) (by omega) (by unfold maxLen; omega) (by omega) (by simp; omega) _ rfl ?_); intro gg cap4 w4 hown4 hg4 hat4 hlt4)
                  go_roundw
                  case rel => exact ⟨acc ++ [(s + d, most)], d + most, f, rfl, own_sp hown4, HE3.out, by omega, by omega, by omega, (HW.out.alloc hSz _).grown hg4 (by simp; omega) (fun g hg => (Hown.out.lt g hg).1)⟩
                  case measure => simp [intOf]; omega
              · have HX := Lib.hid (show splitP most (l.take (i + 1)) = acc by rw [HE2.out, cutP_done f (by omega), List.append_nil])
                go_wp2
                go_roundw
                case rel => exact ⟨i + 1, by omega, by go_num, by rw [HX.out]; exact Hown.out, HW.out⟩
                case measure => simp [intOf]; omega
      · obtain rfl : i = l.length := by omega
        rw [List.take_length] at Hown hlen
        clear hown hW
        go_wp2
        go_ret
        exact ⟨_, rfl, SpA.of_own Hown.out (by unfold maxLen; omega), HW.out⟩

end Go.Proofs.Ytjnaphhbkbigcaa
