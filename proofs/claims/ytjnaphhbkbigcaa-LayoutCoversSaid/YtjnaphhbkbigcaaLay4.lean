/-
  Package layout's and the reference's Split, by contracts.
-/
import Derived.Test.YtjnaphhbkbigcaaLay3
import Derived.Deep.CutRange
namespace Go.Proofs.Ytjnaphhbkbigcaa
open Go.RowKit
set_option linter.unusedVariables false
set_option linter.unusedSimpArgs false

/-- What is left of the span in block S. -/
def leftN (w : World) (S : Nat) : Nat := match w.cell? ⟨S, 1, none⟩ with
  | some (.int _ z) => z.toNat
  | _ => 0
theorem leftN_eq {w : World} {S : Nat} {a c : Int} (h : w.heap[S]? = some (.cells #[.int .i64 a, .int .i64 c] 36 (0, 0))) : leftN w S = c.toNat := by
  have := cells_at h 1
  simp only [List.getElem?_toArray, List.getElem?_cons_zero, List.getElem?_cons_succ] at this
  unfold leftN
  rw [this]
set_option maxRecDepth 100000 in
set_option maxHeartbeats 2000000 in
theorem split_w (v : Value) (l : List Sp) (most : Int) (w : World) (h : SpA w v l) (hl : l.length ≤ 1000) :
    Calls Try.prog 22 #[v, .int .i64 most] w (RetSp (splitP most l) w) := by
  obtain ⟨A, cap, rfl, hm, hR⟩ := h
  obtain ⟨i0, hi, hz0, hz1, hz2⟩ := info_parts sp_info
  have H0 := Lib.hid hR
  clear hR hm
  go_enter Try.func22, Try.ntmps22
  go_wp2
  go_loopw [5, 11] (fun s5 s11 wx => ∃ i : Nat, i ≤ l.length ∧ s11 = .int .i64 i ∧ wx.ownsRow w.heap.size 36 2 s5 (splitP most (l.take i)).length (sps (splitP most (l.take i))) ∧ Below w.heap.size w wx) (fun _ s11 _ => l.length - (intOf s11).toNat)
  case atStart => exact ⟨0, by omega, rfl, World.ownsRow_nil _ _ _ _, Below.refl _ _⟩
  case round =>
    obtain ⟨i, hil, rfl, hown, hW⟩ := hrel
    have Hown := Lib.hid hown
    have HW := Lib.hid hW
    have hlen := splitP_len most (l.take i)
    rw [List.length_take] at hlen
    by_cases hlt : i < l.length
    · obtain ⟨b, s, c, rfl, lb, he, c0, c1⟩ := (H0.out.step hW).at_ hlt
      have Hst := Lib.hid (splitP_take (most := most) he)
      have z0 : (0 : Int) ≤ (i : Int) := by omega
      have z1 : (i : Int) < (l.length : Int) := by omega
      clear hown hW he
      go_upto_region 4 with fail
      go_cut [7] from 12 to 58 (fun s7 wx => ∃ S, s7 = .pointer (some ⟨S, 0, none⟩) ∧ w.heap.size ≤ S ∧ wx.heap[S]? = some (.cells #[.int .i64 s, .int .i64 c] 36 (0, 0)) ∧ u5.ownBlock ≠ some S ∧ wx.ownsRow w.heap.size 36 2 u5 (splitP most (l.take i)).length (sps (splitP most (l.take i))) ∧ Below w.heap.size w wx)
      case first =>
        go_wp2
        go_meet
        case rel => exact ⟨_, rfl, HW.out.size, heap_alloc_new _ _, (fun h => by have := (Hown.out.lt _ h).2; omega), Hown.out.alloc _, bl_alloc HW.out _⟩
      case rest =>
        clear Hown HW c0 c1
        obtain ⟨S, rfl, hS, hbk, hne, hown, hW⟩ := hcut
        have Hbk := Lib.hid hbk
        have Hne := Lib.hid hne
        have Hown := Lib.hid hown
        have HW := Lib.hid hW
        have v0 := cells_at hbk 0
        have v1 := cells_at hbk 1
        simp only [List.getElem?_toArray, List.getElem?_cons_zero, List.getElem?_cons_succ] at v0 v1
        clear hbk hne hown hW
        obtain ⟨W, hWe⟩ : ∃ W : World, W = wc := ⟨_, rfl⟩
        subst hWe
        go_upto_region 5 with fail
        go_cut [34] from 12 to 58 (fun s34 wx => ∃ t, s34 = .bool t ∧ outB most (s, c) = t ∧ W = wx)
        case first =>
          by_cases q1 : most < 1
          · have HT := Lib.hid (show outB most (s, c) = true by simp [outB, q1])
            go_wp2
            go_meet
            case rel => exact ⟨_, rfl, HT.out, rfl⟩
          · by_cases q2 : s < 0
            · have HT := Lib.hid (show outB most (s, c) = true by simp [outB, q2])
              go_wp2
              go_meet
              case rel => exact ⟨_, rfl, HT.out, rfl⟩
            · by_cases q3 : 128 < s
              · have HT := Lib.hid (show outB most (s, c) = true by simp [outB, q3])
                go_wp2
                go_meet
                case rel => exact ⟨_, rfl, HT.out, rfl⟩
              · have w1 := w64 (x := 128 - s) (by omega)
                by_cases q4 : 128 - s < c
                · have HT := Lib.hid (show outB most (s, c) = true by simp [outB, q4])
                  go_wp2
                  go_meet
                  case rel => exact ⟨_, rfl, HT.out, rfl⟩
                · have HT := Lib.hid (show outB most (s, c) = false by simp [outB]; omega)
                  go_wp2
                  go_meet
                  case rel => exact ⟨_, rfl, HT.out, rfl⟩
        case rest =>
          obtain ⟨t, rfl, ht, rfl⟩ := hcut
          cases t with
          | true =>
            have HE := Lib.hid (show splitP most (l.take (i + 1)) = splitP most (l.take i) by rw [Hst.out]; unfold pieceP; rw [if_pos ht, List.append_nil])
            clear ht v0 v1
            go_wp2
            go_roundw
            case rel => exact ⟨i + 1, by omega, by go_num, by rw [HE.out]; exact Hown.out, HW.out⟩
            case measure => simp [intOf]; omega
          | false =>
            have hno : ¬ (most < 1 ∨ s < 0 ∨ 128 < s ∨ 128 - s < c) := by simpa [outB] using ht
            have HE := Lib.hid (show splitP most (l.take (i + 1)) = splitP most (l.take i) ++ cutP most c.toNat s c by rw [Hst.out]; unfold pieceP; rw [if_neg (by rw [ht]; simp)])
            have HL := Lib.hid (splitP_len most (l.take (i + 1)))
            clear ht v0 v1 Hst
            go_wp2
            go_loopw [5] (fun s5 wx => ∃ (acc : List Sp) (s' c' : Int) (f : Nat), wx.heap[S]? = some (.cells #[.int .i64 s', .int .i64 c'] 36 (0, 0)) ∧ s5.ownBlock ≠ some S ∧ wx.ownsRow w.heap.size 36 2 s5 acc.length (sps acc) ∧ splitP most (l.take (i + 1)) = acc ++ cutP most f s' c' ∧ c' ≤ f ∧ 0 ≤ s' ∧ s' + c' ≤ 128 ∧ Below w.heap.size w wx) (fun _ wx => leftN wx S)
            case atStart => exact ⟨_, s, c, c.toNat, Hbk.out, Hne.out, Hown.out, HE.out, by omega, by omega, by omega, HW.out⟩
            case round =>
              clear Hbk Hne Hown HW
              obtain ⟨acc, s', c', f, hbk, hne, hown, hE, hf, hs0, hs1, hW⟩ := hrel
              have Hbk := Lib.hid hbk
              have Hne := Lib.hid hne
              have Hown := Lib.hid hown
              have HW := Lib.hid hW
              have HE2 := Lib.hid hE
              have hacc : acc.length ≤ 128 * 1000 := by
                have h1 := HL.out
                rw [hE, List.length_append, List.length_take] at h1
                omega
              have v0 := cells_at hbk 0
              have v1 := cells_at hbk 1
              have lS := bk_lt hbk
              simp only [List.getElem?_toArray, List.getElem?_cons_zero, List.getElem?_cons_succ] at v0 v1
              clear hbk hne hown hW hE
              by_cases hc : 0 < c'
              · obtain ⟨f, rfl⟩ : ∃ g, f = g + 1 := ⟨f - 1, by omega⟩
                by_cases hmn : c' ≤ most
                · skip
                  have HE3 := Lib.hid (show splitP most (l.take (i + 1)) = (acc ++ [(s', c')]) ++ cutP most f (s' + c') (c' - c') by
                    rw [HE2.out]
                    simp only [cutP]
                    rw [if_pos hc, show min c' most = c' by omega]
                    simp)
                  have f0 := free_at Hbk.out 0
                  have f1 := free_at Hbk.out 1
                  have w1 := w64 (x := s' + c') (by omega)
                  have w2 := w64 (x := c' - c') (by omega)
                  have hSz := HW.out.size
                  go_wp2_with (at_builtin; go_loud (refine wpList_append_lies _ rfl (.tmp 42) (.tmp 47) 34 rfl w.heap.size 36 i0 _ 2 16 Try.underlying34 hi hz0 hz1 hz2 rfl (by omega) _ acc.length (sps acc) rfl (Hown.out.alloc _) ⟨_, 0, none⟩ 1 1 [.int .i64 s', .int .i64 c'] rfl rfl (World.news_of_block (heap_at_new _ _ _ (by first | rfl | simp))) (by simp [Value.oneCell']) (by omega) (by unfold maxLen; omega) (by omega) (by simp; omega) _ rfl ?_); intro gg cap4 w4 hown4 hg4 hat4 hlt4; have hV4 := (hg4.block S (by simp; omega) (fun e => Hne.out e.symm)).trans (bk_alloc Hbk.out _); have hV5 := set_same (i := 0) hV4 (.int .i64 (s' + c')); have t0 := cells_at hV4 0; have t1 := cells_at hV4 1; have g0 := free_at hV4 0; have k1 := cells_at hV5 1; have g1 := free_at hV5 1; have HV5 := Lib.hid hV5; have Hg4 := Lib.hid hg4; have Hown4 := Lib.hid hown4; have Hat4 := Lib.hid hat4; simp only [List.getElem?_toArray, List.getElem?_cons_zero, List.getElem?_cons_succ, Array.setIfInBounds, List.set_cons_zero] at t0 t1 k1; clear hV4 hV5 hg4 hown4 hat4)
                  go_roundw
                  case rel =>
                    have hgS : gg ≠ S := fun e => by
                      rcases Hat4.out with h | h
                      · exact Hne.out (h.trans (by rw [e]))
                      · have h' : gg = wr.heap.size + 1 := by simpa using h
                        omega
                    have hb6 := set_same (i := 1) HV5.out (.int .i64 (c' - c'))
                    exact ⟨acc ++ [(s', c')], s' + c', c' - c', f, by simpa using hb6, fun e => hgS (by simpa [Value.ownBlock] using e), ownsRow_setCell_other (ownsRow_setCell_other (own_sp Hown4.out) (by simp [Value.ownBlock]; exact hgS) _) (by simp [Value.ownBlock]; exact hgS) _, HE3.out, by omega, by omega, by omega,
                      (((HW.out.alloc hSz _).grown Hg4.out (by simp; omega) (fun g hg => (Hown.out.lt g hg).1)).setCell hS _).setCell hS _⟩
                  case measure =>
                    have hb6 := set_same (i := 1) HV5.out (.int .i64 (c' - c'))
                    rw [leftN_eq Hbk.out, leftN_eq (by simpa using hb6)]
                    omega
                · have hmn2 : most < c' := by omega
                  have HE3 := Lib.hid (show splitP most (l.take (i + 1)) = (acc ++ [(s', most)]) ++ cutP most f (s' + most) (c' - most) by
                    rw [HE2.out]
                    simp only [cutP]
                    rw [if_pos hc, show min c' most = most by omega]
                    simp)
                  have f0 := free_at Hbk.out 0
                  have f1 := free_at Hbk.out 1
                  have w1 := w64 (x := s' + most) (by omega)
                  have w2 := w64 (x := c' - most) (by omega)
                  have hSz := HW.out.size
                  go_wp2_with (at_builtin; go_loud (refine wpList_append_lies _ rfl (.tmp 42) (.tmp 47) 34 rfl w.heap.size 36 i0 _ 2 16 Try.underlying34 hi hz0 hz1 hz2 rfl (by omega) _ acc.length (sps acc) rfl (Hown.out.alloc _) ⟨_, 0, none⟩ 1 1 [.int .i64 s', .int .i64 most] rfl rfl (World.news_of_block (heap_at_new _ _ _ (by first | rfl | simp))) (by simp [Value.oneCell']) (by omega) (by unfold maxLen; omega) (by omega) (by simp; omega) _ rfl ?_); intro gg cap4 w4 hown4 hg4 hat4 hlt4; have hV4 := (hg4.block S (by simp; omega) (fun e => Hne.out e.symm)).trans (bk_alloc Hbk.out _); have hV5 := set_same (i := 0) hV4 (.int .i64 (s' + most)); have t0 := cells_at hV4 0; have t1 := cells_at hV4 1; have g0 := free_at hV4 0; have k1 := cells_at hV5 1; have g1 := free_at hV5 1; have HV5 := Lib.hid hV5; have Hg4 := Lib.hid hg4; have Hown4 := Lib.hid hown4; have Hat4 := Lib.hid hat4; simp only [List.getElem?_toArray, List.getElem?_cons_zero, List.getElem?_cons_succ, Array.setIfInBounds, List.set_cons_zero] at t0 t1 k1; clear hV4 hV5 hg4 hown4 hat4)
                  go_roundw
                  case rel =>
                    have hgS : gg ≠ S := fun e => by
                      rcases Hat4.out with h | h
                      · exact Hne.out (h.trans (by rw [e]))
                      · have h' : gg = wr.heap.size + 1 := by simpa using h
                        omega
                    have hb6 := set_same (i := 1) HV5.out (.int .i64 (c' - most))
                    exact ⟨acc ++ [(s', most)], s' + most, c' - most, f, by simpa using hb6, fun e => hgS (by simpa [Value.ownBlock] using e), ownsRow_setCell_other (ownsRow_setCell_other (own_sp Hown4.out) (by simp [Value.ownBlock]; exact hgS) _) (by simp [Value.ownBlock]; exact hgS) _, HE3.out, by omega, by omega, by omega,
                      (((HW.out.alloc hSz _).grown Hg4.out (by simp; omega) (fun g hg => (Hown.out.lt g hg).1)).setCell hS _).setCell hS _⟩
                  case measure =>
                    have hb6 := set_same (i := 1) HV5.out (.int .i64 (c' - most))
                    rw [leftN_eq Hbk.out, leftN_eq (by simpa using hb6)]
                    omega
              · have HX := Lib.hid (show splitP most (l.take (i + 1)) = acc by rw [HE2.out, cutP_done f (by omega), List.append_nil])
                go_wp2
                go_roundw
                case rel => exact ⟨i + 1, by omega, by go_num, by rw [HX.out]; exact Hown.out, HW.out⟩
                case measure => simp [intOf]; omega
    · obtain rfl : i = l.length := by omega
      rw [List.take_length] at Hown hlen
      clear hown hW
      go_wp2
      go_ret
      exact ⟨_, rfl, SpA.of_own Hown.out (by unfold maxLen; omega), HW.out⟩

end Go.Proofs.Ytjnaphhbkbigcaa
