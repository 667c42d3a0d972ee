/-
  Package volume's sound and Size, by contracts.
-/
import Derived.Test.YtdeggdbaeeamiaaVol3
import Derived.Deep.CutBlock
namespace Go.Proofs.Ytdeggdbaeeamiaa
open Go.RowKit
set_option linter.unusedVariables false
set_option linter.unusedSimpArgs false

section
variable {kd ch : Int} {L : List Seg}
theorem sound_len (h : ¬ (1 ≤ L.length ∧ L.length ≤ 4)) : soundB kd ch L = false := by unfold soundB; rw [decide_eq_false h]; rfl
theorem sound_seg (h : L.all segB = false) : soundB kd ch L = false := by unfold soundB; rw [h]; simp
theorem sound_row {k : Nat} (hk : k < L.length) (h : rowB kd L k = false) : soundB kd ch L = false := by
  unfold soundB
  have : (List.range L.length).all (rowB kd L) = false := by
    rw [List.all_eq_false]
    exact ⟨k, by simpa using hk, by simp [h]⟩
  rw [this]; simp
theorem row_bad {k m : Nat} (hm : m < k) (h : badB kd (at0 L k) (at0 L m) = true) : rowB kd L k = false := by
  unfold rowB
  have : (List.range k).all (fun j => !badB kd (at0 L k) (at0 L j)) = false := by
    rw [List.all_eq_false]
    exact ⟨m, by simpa using hm, by simp [h]⟩
  rw [this]; rfl
theorem row_cnt {k : Nat} (h1 : kd ≠ 1) (h2 : (at0 L k).2.2 ≠ (at0 L 0).2.2) : rowB kd L k = false := by
  unfold rowB
  have e1 : (kd == 1) = false := by simpa using h1
  have e2 : ((at0 L k).2.2 == (at0 L 0).2.2) = false := by simpa using h2
  rw [e1, e2]; simp
theorem row_ok {k : Nat} (h : ∀ m, m < k → badB kd (at0 L k) (at0 L m) = false) (h2 : kd = 1 ∨ (at0 L k).2.2 = (at0 L 0).2.2) : rowB kd L k = true := by
  unfold rowB
  have e : (List.range k).all (fun j => !badB kd (at0 L k) (at0 L j)) = true := by
    rw [List.all_eq_true]
    intro m hm
    rw [h m (by simpa using hm)]; rfl
  rw [e, Bool.true_and]
  rcases h2 with h2 | h2
  · simp [h2]
  · rw [beq_iff_eq.2 h2]; simp
theorem sound_kind (h : kindB kd ch L = false) : soundB kd ch L = false := by unfold soundB; rw [h]; simp
theorem sound_all (h1 : 1 ≤ L.length) (h4 : L.length ≤ 4) (hs : L.all segB = true) (hr : ∀ k, k < L.length → rowB kd L k = true) (hk : kindB kd ch L = true) : soundB kd ch L = decide (sizeV kd L ≤ 128) := by
  unfold soundB
  have e : (List.range L.length).all (rowB kd L) = true := by
    rw [List.all_eq_true]
    exact fun k hk => hr k (by simpa using hk)
  rw [decide_eq_true (show 1 ≤ L.length ∧ L.length ≤ 4 from ⟨h1, h4⟩), hs, e, hk]
  rfl
end

set_option maxRecDepth 100000 in
set_option maxHeartbeats 4000000 in
theorem sound_w (kd ch : Int) (A : Option Addr) (L : List Seg) (cap : Nat) (w : World) (h : PA w A L) (hl : L.length ≤ maxLen) (hc : L.length ≤ cap) :
    Calls Try.prog 28 #[volV kd ch A L.length cap] w (RetB (soundB kd ch L) w) := by
  have hl' := hl
  unfold maxLen at hl'
  have HV := Lib.hid (VS.new (kd := kd) (ch := ch) (cap := cap) h)
  by_cases h1 : 1 ≤ L.length
  · by_cases h4 : L.length ≤ 4
    · have cont := fun w' (hb : Below w.heap.size w w') => contains1_w (fun x => !segB x) A L cap w' (h.step hb) hl (fun x _ w2 _ => sound1_w x w2)
      cases hs : L.all segB with
      | false =>
        have ha : (L.any fun x => !segB x) = true := by
          rw [List.any_eq_true]
          rw [List.all_eq_false] at hs
          obtain ⟨x, hx, hb⟩ := hs
          exact ⟨x, hx, by simpa using hb⟩
        simp only [ha] at cont
        have Hs := Lib.hid (sound_seg (kd := kd) (ch := ch) hs)
        clear hs ha h
        go_enter Try.func28, Try.ntmps28
        go_wp2_with (go_at_call 33; (with_reducible refine Calls.mono (cont _ ?_) ?_); · exact (Below.refl _ _).alloc (Nat.le_refl _) _
                     rintro e w1 ⟨rfl, hb1⟩)
        go_ret
        exact ⟨ret_bool Hs.out.symm, bl_step HV.out.below hb1⟩
      | true =>
        have ha : (L.any fun x => !segB x) = false := by
          rw [List.any_eq_false]
          intro x hx
          simp [List.all_eq_true.1 hs x hx]
        simp only [ha] at cont
        have HS := Lib.hid hs
        clear hs ha h
        obtain ⟨V, hVe⟩ : ∃ V, V = w.heap.size := ⟨_, rfl⟩
        rw [← hVe] at HV
        have HVe := Lib.hid hVe
        clear hVe
        go_enter Try.func28, Try.ntmps28
        go_upto_region 0 with fail
        go_cut [1] (fun s1 wx => s1 = .pointer (some ⟨V, 0, none⟩) ∧ VS w V kd ch A L cap wx)
        case first =>
          go_wp2
          go_meet
          case rel => exact ⟨by rw [HVe.out], HV.out⟩
        case rest =>
          obtain ⟨rfl, hV⟩ := hcut
          obtain ⟨v0, v1, v2⟩ := hV.cell
          have HV1 := Lib.hid hV
          have hB := hV.below
          clear hV HV
          go_upto_region 3 with (go_at_call 33; (with_reducible refine Calls.mono (cont _ hB) ?_); rintro e w1 ⟨rfl, hb1⟩; have HV2 := Lib.hid (HV1.out.step hb1); obtain ⟨z0, z1, z2⟩ := HV2.out.cell)
          clear cont hB HV1 hb1 v0 v1 v2
          obtain ⟨b, o, fd, fs, fc, rfl, hb, he, c0, c1, c2⟩ := HV2.out.2.1.at_ (i := 0) (by omega)
          simp only [Nat.zero_mul, Nat.add_zero] at c0 c1 c2
          have Hf := Lib.hid (at0_some he)
          have He0 := Lib.hid he
          clear he
          go_cut [3] (fun s3 wx => ∃ F, s3 = .pointer (some ⟨F, 0, none⟩) ∧ wx.heap[F]? = some (.cells #[.int .i64 fd, .int .i64 fs, .int .i64 fc] 35 (0, 0)) ∧ VS w V kd ch (some ⟨b, o, none⟩) L cap wx)
          case first =>
            go_wp2
            go_meet
            case rel => exact ⟨_, rfl, heap_alloc_new _ _, HV2.out.alloc _⟩
          case rest =>
            clear c0 c1 c2 HV2 z0 z1 z2 hb
            obtain ⟨F, rfl, hF, hV⟩ := hcut
            obtain ⟨v0, v1, v2⟩ := hV.cell
            have HF := Lib.hid hF
            have HV := Lib.hid hV
            clear hF hV
            go_wp2
            clear v0 v1 v2
            go_loopw [30] (fun s30 wx => ∃ k : Nat, k ≤ L.length ∧ s30 = .int .i64 k ∧ (∀ j, j < k → rowB kd L j = true) ∧ wx.heap[F]? = some (.cells #[.int .i64 fd, .int .i64 fs, .int .i64 fc] 35 (0, 0)) ∧ VS w V kd ch (some ⟨b, o, none⟩) L cap wx) (fun s30 _ => L.length - (intOf s30).toNat)
            case atStart => exact ⟨0, by omega, rfl, fun j hj => by omega, HF.out, HV.out⟩
            case round =>
              clear HF HV
              obtain ⟨k, hk, rfl, hrow, hF, hV⟩ := hrel
              have HF := Lib.hid hF
              have HV := Lib.hid hV
              have Hrow := Lib.hid hrow
              clear hF hV hrow
              by_cases hlt : k < L.length
              · obtain ⟨d, s, c, hb, he, c0, c1, c2⟩ := HV.out.2.1.get hlt
                have hx := seg_of_all HS.out he
                have Hx := Lib.hid (at0_some he)
                clear he
                go_upto_region 6 with fail
                go_cut [4, 5] (fun s4 s5 wx => ∃ X, s4 = .int .i64 k ∧ s5 = .pointer (some ⟨X, 0, none⟩) ∧ wx.heap[X]? = some (.cells #[.int .i64 d, .int .i64 s, .int .i64 c] 35 (0, 0)) ∧ wx.heap[F]? = some (.cells #[.int .i64 fd, .int .i64 fs, .int .i64 fc] 35 (0, 0)) ∧ VS w V kd ch (some ⟨b, o, none⟩) L cap wx)
                case first =>
                  go_wp2
                  go_meet
                  case rel => exact ⟨_, rfl, rfl, heap_alloc_new _ _, bk_alloc HF.out _, HV.out.alloc _⟩
                case rest =>
                  clear c0 c1 c2 HF HV hb
                  obtain ⟨X, rfl, rfl, hX, hF, hV⟩ := hcut
                  obtain ⟨v0, v1, v2⟩ := hV.cell
                  have HX := Lib.hid hX
                  have HF := Lib.hid hF
                  have HV := Lib.hid hV
                  clear hX hF hV
                  have k0 : (0 : Int) ≤ (k : Int) := by omega
                  have k1 : (k : Int) ≤ (cap : Int) := by omega
                  go_wp2
                  clear v0 v1 v2
                  go_loopw [40] (fun s40 wx => ∃ m : Nat, m ≤ k ∧ s40 = .int .i64 m ∧ (∀ j, j < m → badB kd (at0 L k) (at0 L j) = false) ∧ wx.heap[X]? = some (.cells #[.int .i64 d, .int .i64 s, .int .i64 c] 35 (0, 0)) ∧ wx.heap[F]? = some (.cells #[.int .i64 fd, .int .i64 fs, .int .i64 fc] 35 (0, 0)) ∧ VS w V kd ch (some ⟨b, o, none⟩) L cap wx) (fun s40 _ => k - (intOf s40).toNat)
                  case atStart => exact ⟨0, by omega, rfl, fun j hj => by omega, HX.out, HF.out, HV.out⟩
                  case round =>
                    clear HX HF HV
                    obtain ⟨m, hm, rfl, hbad, hX, hF, hV⟩ := hrel
                    have Hbad := Lib.hid hbad
                    clear hbad
                    by_cases hml : m < k
                    · obtain ⟨d', s', c', hb, he', c0, c1, c2⟩ := hV.2.1.get (show m < L.length by omega)
                      have hy := seg_of_all HS.out he'
                      have Hy := Lib.hid (at0_some he')
                      have ov := fun w => overlap_w (d, s, c) (d', s', c') w hx hy
                      have x0 := cells_at hX 0
                      have x1 := cells_at hX 1
                      have x2 := cells_at hX 2
                      simp only [List.getElem?_toArray, List.getElem?_cons_zero, List.getElem?_cons_succ] at x0 x1 x2
                      have lX := bk_lt hX
                      have HX := Lib.hid hX
                      have HF := Lib.hid hF
                      have HV := Lib.hid hV
                      have hXY : ¬ X = wr.heap.size := by omega
                      clear he' hy hX hF hV
                      cases ho : ovB (d, s, c) (d', s', c') with
                      | true =>
                        have Hr := Lib.hid (sound_row (kd := kd) (ch := ch) hlt (row_bad hml (by rw [Hx.out, Hy.out]; simp [badB, ho])))
                        rw [ho] at ov
                        clear ho
                        go_wp2_with (go_at_call 39; (with_reducible refine Calls.mono (ov _) ?_); rintro e w1 ⟨rfl, hb1⟩; have HV1 := Lib.hid ((HV.out.alloc (.cells #[.int .i64 d', .int .i64 s', .int .i64 c'] 35)).step hb1); obtain ⟨v0, v1, v2⟩ := HV1.out.cell; have HX1 := Lib.hid (bk_step (bk_alloc HX.out (.cells #[.int .i64 d', .int .i64 s', .int .i64 c'] 35)) hb1); have xx := cells_at HX1.out 0; have HY1 := Lib.hid (bk_step (heap_alloc_at wr (.cells #[.int .i64 d', .int .i64 s', .int .i64 c'] 35)) hb1); have yy := cells_at HY1.out 0; simp only [List.getElem?_toArray, List.getElem?_cons_zero, List.getElem?_cons_succ] at xx yy)
                        go_ret
                        exact ⟨ret_bool Hr.out.symm, HV1.out.below⟩
                      | false =>
                        by_cases h3 : (kd == 3 && d == d') = true
                        · have Hr := Lib.hid (sound_row (kd := kd) (ch := ch) hlt (row_bad hml (by rw [Hx.out, Hy.out]; simp only [badB, h3, Bool.or_true])))
                          simp only [Bool.and_eq_true] at h3
                          obtain ⟨h3, h4'⟩ := h3
                          rw [ho] at ov
                          clear ho
                          go_wp2_with (go_at_call 39; (with_reducible refine Calls.mono (ov _) ?_); rintro e w1 ⟨rfl, hb1⟩; have HV1 := Lib.hid ((HV.out.alloc (.cells #[.int .i64 d', .int .i64 s', .int .i64 c'] 35)).step hb1); obtain ⟨v0, v1, v2⟩ := HV1.out.cell; have HX1 := Lib.hid (bk_step (bk_alloc HX.out (.cells #[.int .i64 d', .int .i64 s', .int .i64 c'] 35)) hb1); have xx := cells_at HX1.out 0; have HY1 := Lib.hid (bk_step (heap_alloc_at wr (.cells #[.int .i64 d', .int .i64 s', .int .i64 c'] 35)) hb1); have yy := cells_at HY1.out 0; simp only [List.getElem?_toArray, List.getElem?_cons_zero, List.getElem?_cons_succ] at xx yy)
                          go_ret
                          exact ⟨ret_bool Hr.out.symm, HV1.out.below⟩
                        · have hb0 : badB kd (at0 L k) (at0 L m) = false := by
                            rw [Hx.out, Hy.out]
                            simp only [Bool.not_eq_true] at h3
                            simp only [badB, ho, h3, Bool.or_false]
                          have Hb0 := Lib.hid hb0
                          clear hb0
                          rw [ho] at ov
                          clear ho
                          have hcase : (kd == 3) = false ∨ ((kd == 3) = true ∧ (d == d') = false) := by
                            cases e1 : (kd == 3) with
                            | false => exact .inl rfl
                            | true => rw [e1] at h3; exact .inr ⟨rfl, by simpa using h3⟩
                          clear h3
                          rcases hcase with h3 | ⟨h3, h4'⟩
                          all_goals
                            go_wp2_with (go_at_call 39; (with_reducible refine Calls.mono (ov _) ?_); rintro e w1 ⟨rfl, hb1⟩; have HV1 := Lib.hid ((HV.out.alloc (.cells #[.int .i64 d', .int .i64 s', .int .i64 c'] 35)).step hb1); obtain ⟨v0, v1, v2⟩ := HV1.out.cell; have HX1 := Lib.hid (bk_step (bk_alloc HX.out (.cells #[.int .i64 d', .int .i64 s', .int .i64 c'] 35)) hb1); have xx := cells_at HX1.out 0; have HY1 := Lib.hid (bk_step (heap_alloc_at wr (.cells #[.int .i64 d', .int .i64 s', .int .i64 c'] 35)) hb1); have yy := cells_at HY1.out 0; simp only [List.getElem?_toArray, List.getElem?_cons_zero, List.getElem?_cons_succ] at xx yy)
                            go_roundw
                            case rel => exact ⟨m + 1, by omega, by go_num, fun j hj => by
                              by_cases hjm : j < m
                              · exact Hbad.out j hjm
                              · obtain rfl : j = m := by omega
                                exact Hb0.out, HX1.out, bk_step (bk_alloc HF.out _) hb1, HV1.out⟩
                            case measure => simp [intOf]; omega
                    · obtain rfl : m = k := by omega
                      obtain ⟨v0, v1, v2⟩ := hV.cell
                      have x0 := cells_at hX 0
                      have x1 := cells_at hX 1
                      have x2 := cells_at hX 2
                      have f0 := cells_at hF 0
                      have f1 := cells_at hF 1
                      have f2 := cells_at hF 2
                      simp only [List.getElem?_toArray, List.getElem?_cons_zero, List.getElem?_cons_succ] at x0 x1 x2 f0 f1 f2
                      have HF := Lib.hid hF
                      have HV := Lib.hid hV
                      clear hX hF hV hm hml
                      by_cases h3 : kd = 1
                      · have Hr := Lib.hid (row_ok (kd := kd) Hbad.out (.inl h3))
                        have h3' : (kd != 1) = false := by simp [h3]
                        clear h3
                        go_wp2
                        go_roundw
                        case rel => exact ⟨m + 1, by omega, by go_num, fun j hj => by
                          by_cases hjm : j < m
                          · exact Hrow.out j hjm
                          · obtain rfl : j = m := by omega
                            exact Hr.out, HF.out, HV.out⟩
                        case measure => simp [intOf]; omega
                      · have h3' : (kd != 1) = true := by simp [h3]
                        by_cases hcf : c = fc
                        · have Hr := Lib.hid (row_ok (kd := kd) Hbad.out (.inr (by rw [Hx.out, Hf.out]; exact hcf)))
                          have h4' : (c != fc) = false := by simp [hcf]
                          clear h3 hcf
                          go_wp2
                          go_roundw
                          case rel => exact ⟨m + 1, by omega, by go_num, fun j hj => by
                            by_cases hjm : j < m
                            · exact Hrow.out j hjm
                            · obtain rfl : j = m := by omega
                              exact Hr.out, HF.out, HV.out⟩
                          case measure => simp [intOf]; omega
                        · have Hr := Lib.hid (sound_row (ch := ch) hlt (row_cnt h3 (by rw [Hx.out, Hf.out]; exact hcf)))
                          have h4' : (c != fc) = true := by simp [hcf]
                          clear h3 hcf
                          go_wp2
                          go_ret
                          exact ⟨ret_bool Hr.out.symm, HV.out.below⟩
              · obtain rfl : k = L.length := by omega
                obtain ⟨v0, v1, v2⟩ := HV.out.cell
                have f0 := cells_at HF.out 0
                have f1 := cells_at HF.out 1
                have f2 := cells_at HF.out 2
                simp only [List.getElem?_toArray, List.getElem?_cons_zero, List.getElem?_cons_succ] at f0 f1 f2
                obtain ⟨_, _, _, _, b1, b2⟩ := seg_t (seg_of_all HS.out (show L[0]? = some (fd, fs, fc) from He0.out))
                simp only at b1 b2
                have Hsz := Lib.hid (size_w kd ch (some ⟨b, o, none⟩) L cap wr HV.out.2.1 h1 h4 HS.out)
                have hsz := Hsz.out
                clear Hsz
                have Hal := Lib.hid (fun hk => sound_all (kd := kd) (ch := ch) h1 h4 HS.out Hrow.out hk)
                generalize sizeV kd L = z at hsz Hal
                by_cases k2 : kd = 2
                · have e2 : (kd == 2) = true := by simp [k2]
                  by_cases hch : 1 ≤ ch
                  · by_cases hm : fc % ch = 0
                    · have Hk := Lib.hid (show kindB kd ch L = true by unfold kindB; rw [Hf.out, e2, decide_eq_true hch]; simp [hm])
                      have em : (fc % ch != 0) = false := by simp [hm]
                      clear k2 hm
                      go_wp2_with (go_at_call 29; (with_reducible refine Calls.mono hsz ?_); rintro e w9 ⟨rfl, hb9⟩)
                      go_ret
                      exact ⟨ret_bool (Hal.out Hk.out).symm, bl_step HV.out.below hb9⟩
                    · have Hk := Lib.hid (sound_kind (show kindB kd ch L = false by unfold kindB; rw [Hf.out, k2]; simp [hm]))
                      have em : (fc % ch != 0) = true := by simp [hm]
                      clear k2 hm
                      go_wp2
                      go_ret
                      exact ⟨ret_bool Hk.out.symm, HV.out.below⟩
                  · have Hk := Lib.hid (sound_kind (show kindB kd ch L = false by unfold kindB; rw [k2]; simp [hch]))
                    have em : ch < 1 := by omega
                    clear k2 hch
                    go_wp2
                    go_ret
                    exact ⟨ret_bool Hk.out.symm, HV.out.below⟩
                · have e2 : (kd == 2) = false := by simp [k2]
                  have hcase : ((kd == 1) = true ∨ ((kd == 1) = false ∧ (kd == 3) = true)) ∨ ((kd == 1) = false ∧ (kd == 3) = false) := by
                    cases e1 : (kd == 1) <;> cases e3 : (kd == 3) <;> simp
                  rcases hcase with h13 | ⟨e1, e3⟩
                  · by_cases hch : ch = 0
                    · have Hk := Lib.hid (show kindB kd ch L = true by
                        unfold kindB
                        rcases h13 with e1 | ⟨_, e3⟩
                        · simp [hch, e1]
                        · simp [hch, e3])
                      have em : (ch != 0) = false := by simp [hch]
                      clear k2 hch
                      rcases h13 with e1 | ⟨e1, e3⟩
                      all_goals
                        go_wp2_with (go_at_call 29; (with_reducible refine Calls.mono hsz ?_); rintro e w9 ⟨rfl, hb9⟩)
                        go_ret
                        exact ⟨ret_bool (Hal.out Hk.out).symm, bl_step HV.out.below hb9⟩
                    · have Hk := Lib.hid (sound_kind (show kindB kd ch L = false by unfold kindB; rw [e2]; simp [hch]))
                      have em : (ch != 0) = true := by simp [hch]
                      clear k2 hch
                      rcases h13 with e1 | ⟨e1, e3⟩
                      all_goals
                        go_wp2
                        go_ret
                        exact ⟨ret_bool Hk.out.symm, HV.out.below⟩
                  · have Hk := Lib.hid (sound_kind (show kindB kd ch L = false by unfold kindB; rw [e2, e1, e3]; simp))
                    clear k2
                    go_wp2
                    go_ret
                    exact ⟨ret_bool Hk.out.symm, HV.out.below⟩
    · have Hf := Lib.hid (sound_len (kd := kd) (ch := ch) (L := L) (fun x => h4 x.2))
      clear h
      go_enter Try.func28, Try.ntmps28
      go_wp2
      go_ret
      exact ⟨ret_bool Hf.out.symm, HV.out.below⟩
  · have Hf := Lib.hid (sound_len (kd := kd) (ch := ch) (L := L) (fun x => h1 x.1))
    clear h
    go_enter Try.func28, Try.ntmps28
    go_wp2
    go_ret
    exact ⟨ret_bool Hf.out.symm, HV.out.below⟩

def szB (kd ch : Int) (L : List Seg) : Int := if soundB kd ch L = true then sizeV kd L else 0
theorem sound_parts {kd ch : Int} {L : List Seg} (h : soundB kd ch L = true) : 1 ≤ L.length ∧ L.length ≤ 4 ∧ L.all segB = true ∧ (∀ k, k < L.length → rowB kd L k = true) ∧ kindB kd ch L = true ∧ sizeV kd L ≤ 128 := by
  unfold soundB at h
  simp only [Bool.and_eq_true, decide_eq_true_eq] at h
  obtain ⟨⟨⟨⟨⟨a, b⟩, c⟩, d⟩, e⟩, f⟩ := h
  exact ⟨a, b, c, fun k hk => List.all_eq_true.1 d k (by simpa using hk), e, f⟩
theorem Size_w (kd ch : Int) (A : Option Addr) (L : List Seg) (cap : Nat) (w : World) (h : PA w A L) (hl : L.length ≤ maxLen) (hc : L.length ≤ cap) :
    Calls Try.prog 11 #[volV kd ch A L.length cap] w (RetI (szB kd ch L) w) := by
  have cs := sound_w kd ch A L cap _ (VS.new (kd := kd) (ch := ch) (cap := cap) h).2.1 hl hc
  cases hs : soundB kd ch L with
  | false =>
    have Hz := Lib.hid (show szB kd ch L = 0 by unfold szB; rw [hs]; rfl)
    rw [hs] at cs
    have HB := Lib.hid (VS.new (kd := kd) (ch := ch) (cap := cap) h).below
    clear hs h
    go_enter Try.func11, Try.ntmps11
    go_wp2_with (go_at_call 28; (with_reducible refine Calls.mono cs ?_); rintro e w1 ⟨rfl, hb1⟩)
    go_ret
    exact ⟨ret_int Hz.out.symm, bl_step HB.out hb1⟩
  | true =>
    have Hz := Lib.hid (show szB kd ch L = sizeV kd L by unfold szB; rw [hs]; rfl)
    obtain ⟨h1, h4, ha, _⟩ := sound_parts hs
    rw [hs] at cs
    have HV := Lib.hid (VS.new (kd := kd) (ch := ch) (cap := cap) h)
    have sz := fun w' (hp : PA w' A L) => size_w kd ch A L cap w' hp h1 h4 ha
    clear hs h ha
    go_enter Try.func11, Try.ntmps11
    go_wp2_with (first
      | (go_at_call 28; (with_reducible refine Calls.mono cs ?_); rintro e w1 ⟨rfl, hb1⟩; have HV1 := Lib.hid (HV.out.step hb1); obtain ⟨v0, v1, v2⟩ := HV1.out.cell)
      | (go_at_call 29; (with_reducible refine Calls.mono (sz _ HV1.out.pa) ?_); rintro e w2 ⟨rfl, hb2⟩))
    go_ret
    exact ⟨ret_int Hz.out.symm, bl_step HV1.out.below hb2⟩

end Go.Proofs.Ytdeggdbaeeamiaa
