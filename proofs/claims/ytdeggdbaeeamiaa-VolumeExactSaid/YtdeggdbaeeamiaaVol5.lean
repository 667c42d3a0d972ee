/-
  The reference's sound and Size, by contracts.
-/
import Derived.Test.YtdeggdbaeeamiaaVol4
namespace Go.Proofs.Ytdeggdbaeeamiaa
open Go.RowKit
set_option linter.unusedVariables false
set_option linter.unusedSimpArgs false

def preB (kd ch : Int) (n : Nat) : Bool := decide (1 ≤ kd ∧ kd ≤ 3 ∧ 1 ≤ (n : Int) ∧ (n : Int) ≤ 4 ∧ 0 ≤ ch ∧ (kd = 2 ↔ 1 ≤ ch))
section
variable {kd ch : Int} {L : List Seg}
theorem pre_f (h : preB kd ch L.length = false) : soundB kd ch L = false := by
  cases hs : soundB kd ch L with
  | false => rfl
  | true =>
    exfalso
    obtain ⟨h1, h4, _, _, hk, _⟩ := sound_parts hs
    simp only [kindB, Bool.or_eq_true, Bool.and_eq_true, beq_iff_eq, decide_eq_true_eq] at hk
    simp only [preB, decide_eq_false_iff_not] at h
    omega
theorem seg_f {k : Nat} {x : Seg} (hk : L[k]? = some x) (h : segB x = false) : soundB kd ch L = false := by
  refine sound_seg ?_
  rw [List.all_eq_false]
  exact ⟨x, List.mem_of_getElem? hk, by simp [h]⟩
theorem mod_f {k : Nat} (hk : k < L.length) (h2 : kd = 2) (hm : (at0 L k).2.2 % ch ≠ 0) : soundB kd ch L = false := by
  cases hs : soundB kd ch L with
  | false => rfl
  | true =>
    exfalso
    obtain ⟨h1, h4, _, hr, hkk, _⟩ := sound_parts hs
    have hrk := hr k hk
    simp only [rowB, Bool.and_eq_true, Bool.or_eq_true, beq_iff_eq] at hrk
    simp only [kindB, Bool.or_eq_true, Bool.and_eq_true, beq_iff_eq, decide_eq_true_eq] at hkk
    rcases hrk.2 with h | h
    · omega
    · rw [h] at hm; omega
theorem ref_ok (hp : preB kd ch L.length = true) (hs : ∀ j, j < L.length → segB (at0 L j) = true) (hr : ∀ j, j < L.length → rowB kd L j = true) (hm : kd = 2 → (at0 L 0).2.2 % ch = 0) : soundB kd ch L = decide (sizeV kd L ≤ 128) := by
  simp only [preB, decide_eq_true_eq] at hp
  refine sound_all (by omega) (by omega) ?_ hr ?_
  · rw [List.all_eq_true]
    intro x hx
    obtain ⟨i, hi, rfl⟩ := List.getElem_of_mem hx
    have := hs i hi
    rwa [at0_some (List.getElem?_eq_getElem hi)] at this
  · simp only [kindB, Bool.or_eq_true, Bool.and_eq_true, beq_iff_eq, decide_eq_true_eq]
    by_cases h2 : kd = 2
    · exact .inl ⟨⟨h2, by omega⟩, hm h2⟩
    · exact .inr ⟨by omega, by omega⟩
theorem sumK_upto {L : List Seg} : ∀ k, k ≤ L.length → (∀ j, j < k → segB (at0 L j) = true) → (k : Int) ≤ sumK L k ∧ sumK L k ≤ 128 * k
  | 0, _, _ => by simp [sumK]
  | k + 1, hk, h => by
    have hx : L[k]? = some L[k] := List.getElem?_eq_getElem (by omega)
    have h1 := sumK_upto k (by omega) (fun j hj => h j (by omega))
    have h2 := h k (by omega)
    rw [at0_some hx] at h2
    obtain ⟨_, _, _, _, a, b⟩ := seg_t h2
    rw [sumK_succ hx]
    omega
end

set_option maxRecDepth 100000 in
set_option maxHeartbeats 4000000 in
theorem rsound_w (kd ch : Int) (A : Option Addr) (L : List Seg) (cap : Nat) (w : World) (h : PA w A L) (hl : L.length ≤ maxLen) :
    Calls Try.prog 30 #[volV kd ch A L.length cap] w (RetB (soundB kd ch L) w) := by
  have hl' := hl
  unfold maxLen at hl'
  have HV := Lib.hid (VS.new (kd := kd) (ch := ch) (cap := cap) h)
  obtain ⟨V, hVe⟩ : ∃ V, V = w.heap.size := ⟨_, rfl⟩
  rw [← hVe] at HV
  have HVe := Lib.hid hVe
  clear hVe h
  go_enter Try.func30, Try.ntmps30
  go_upto_region 0 with fail
  go_cut [1] (fun s1 wx => s1 = .pointer (some ⟨V, 0, none⟩) ∧ VS w V kd ch A L cap wx)
  case first =>
    go_wp2
    go_meet
    case rel => exact ⟨by rw [HVe.out], HV.out⟩
  case rest =>
    obtain ⟨rfl, hV⟩ := hcut
    clear HV
    have HV := Lib.hid hV
    obtain ⟨v0, v1, v2⟩ := hV.cell
    clear hV
    obtain ⟨W, rfl⟩ : ∃ W : World, W = wc := ⟨_, rfl⟩
    go_upto_region 2 with fail
    go_cut [41] (fun s41 wx => ∃ t, s41 = .bool t ∧ (!preB kd ch L.length) = t ∧ W = wx)
    case first =>
      as_aux_lemma =>
        by_cases k2 : kd = 2
        all_goals
          by_cases hch : 1 ≤ ch
        all_goals
          first
            | have e2 : (kd == 2) = true := by simp [k2]
            | have e2 : (kd == 2) = false := by simp [k2]
          have K2 := Lib.hid k2
          clear k2
          go_wp2
          all_goals
            go_meet
            case rel =>
              have k2 := K2.out
              exact ⟨_, rfl, (by rw [Bool.eq_iff_iff]; simp [preB]; try omega), rfl⟩
    case rest =>
      obtain ⟨t, rfl, htp, rfl⟩ := hcut
      cases t with
      | true =>
        have hp : preB kd ch L.length = false := by simpa using htp
        clear htp
        have Hr := Lib.hid (pre_f hp)
        clear hp
        go_wp2
        go_ret
        exact ⟨ret_bool Hr.out.symm, HV.out.below⟩
      | false =>
        have hp : preB kd ch L.length = true := by simpa using htp
        clear htp
        have Hp := Lib.hid hp
        have hp' := hp
        simp only [preB, decide_eq_true_eq] at hp'
        obtain ⟨p1, p2, p3, p4, p5, p6⟩ := hp'
        have p7 : kd = 2 → 1 ≤ ch := p6.1
        have P6 := Lib.hid p7
        clear hp p6 p7
        obtain ⟨b, o, fd, fs, fc, rfl, hb, he, c0, c1, c2⟩ := HV.out.pa.at_ (i := 0) (by omega)
        have Hf := Lib.hid (at0_some he)
        clear he c0 c1 c2 hb
        go_wp2
        clear v0 v1 v2
        go_loopw [4, 5] (fun s4 s5 wx => ∃ k : Nat, k ≤ L.length ∧ s5 = .int .i64 k ∧ s4 = .int .i64 (sumK L k) ∧ (∀ j, j < k → segB (at0 L j) = true) ∧ (∀ j, j < k → rowB kd L j = true) ∧ (kd = 2 → ∀ j, j < k → (at0 L j).2.2 % ch = 0) ∧ VS w V kd ch (some ⟨b, o, none⟩) L cap wx) (fun _ s5 _ => L.length - (intOf s5).toNat)
        case atStart => exact ⟨0, by omega, rfl, by rw [sumK_zero], fun j hj => by omega, fun j hj => by omega, fun _ j hj => by omega, HV.out⟩
        case round =>
          clear HV
          obtain ⟨k, hk, rfl, rfl, hseg, hrow, hmod, hV⟩ := hrel
          obtain ⟨u1, u2⟩ := sumK_upto k hk hseg
          have Hseg := Lib.hid hseg
          have Hrow := Lib.hid hrow
          have Hmod := Lib.hid hmod
          have HV := Lib.hid hV
          clear hseg hrow hmod hV
          by_cases hlt : k < L.length
          · obtain ⟨d, s, c, hb, he, c0, c1, c2⟩ := HV.out.pa.get hlt
            obtain ⟨v0, v1, v2⟩ := HV.out.cell
            have Hx := Lib.hid (at0_some he)
            have Hsf := Lib.hid (fun hs => seg_f (kd := kd) (ch := ch) he hs)
            have Hsum := Lib.hid (sumK_succ he)
            clear he
            go_upto_region 8 with fail
            go_cut [6] (fun s6 wx => ∃ X, s6 = .pointer (some ⟨X, 0, none⟩) ∧ wx.heap[X]? = some (.cells #[.int .i64 d, .int .i64 s, .int .i64 c] 35 (0, 0)) ∧ VS w V kd ch (some ⟨b, o, none⟩) L cap wx)
            case first =>
              go_wp2
              go_meet
              case rel => exact ⟨_, rfl, heap_alloc_new _ _, HV.out.alloc _⟩
            case rest =>
              clear c0 c1 c2 HV hb v0 v1 v2
              obtain ⟨X, rfl, hX, hV⟩ := hcut
              obtain ⟨W2, rfl⟩ : ∃ W2 : World, W2 = wc := ⟨_, rfl⟩
              have HX := Lib.hid hX
              have HV := Lib.hid hV
              have x0 := cells_at hX 0
              have x1 := cells_at hX 1
              have x2 := cells_at hX 2
              simp only [List.getElem?_toArray, List.getElem?_cons_zero, List.getElem?_cons_succ] at x0 x1 x2
              clear hX hV
              go_upto_region 9 with fail
              go_cut [79] (fun s79 wx => ∃ t, s79 = .bool t ∧ (!segB (d, s, c)) = t ∧ W2 = wx)
              case first =>
                go_wp2
                all_goals
                  go_meet
                  case rel => exact ⟨_, rfl, (by rw [Bool.eq_iff_iff]; simp [segB]; try omega), rfl⟩
              case rest =>
                obtain ⟨t, rfl, hts, rfl⟩ := hcut
                cases t with
                | true =>
                  have hsx : segB (d, s, c) = false := by simpa using hts
                  clear hts
                  have Hr := Lib.hid (Hsf.out hsx)
                  clear hsx
                  go_wp2
                  go_ret
                  exact ⟨ret_bool Hr.out.symm, HV.out.below⟩
                | false =>
                  have hsx : segB (d, s, c) = true := by simpa using hts
                  clear hts
                  obtain ⟨a1, a2, a3, a4, a5, a6⟩ := seg_t hsx
                  simp only at a1 a2 a3 a4 a5 a6
                  have Hsx := Lib.hid hsx
                  clear hsx
                  obtain ⟨fd', fs', fc', hb, he, c0, c1, c2⟩ := HV.out.pa.get (i := 0) (by omega)
                  have hfe := (at0_some he).symm.trans Hf.out
                  simp only [Prod.mk.injEq] at hfe
                  obtain ⟨rfl, rfl, rfl⟩ := hfe
                  simp only [Nat.zero_mul, Nat.add_zero] at c0 c1 c2
                  obtain ⟨v0, v1, v2⟩ := HV.out.cell
                  clear he
                  have q0 : (0 : Int) < (L.length : Int) := by omega
                  go_upto_region 11 with fail
                  go_cut [105] (fun s105 wx => ∃ t, s105 = .bool t ∧ (t = true → soundB kd ch L = false) ∧ (t = false → (kd = 1 ∨ c = fc') ∧ (kd = 2 → c % ch = 0)) ∧ ∃ n, W2.drewN n = wx)
                  case first =>
                    as_aux_lemma =>
                      have hkd : kd = 1 ∨ kd = 2 ∨ kd = 3 := by omega
                      rcases hkd with hk1 | hk2 | hk3
                      · have n1 : (kd != 1) = false := by simp [hk1]
                        have e2 : (kd == 2) = false := by simp [hk1]
                        have Hr := Lib.hid (show ((kd = 1 ∨ c = fc') ∧ (kd = 2 → c % ch = 0)) from ⟨.inl hk1, fun h => by omega⟩)
                        clear hk1
                        go_quiet (fail)
                        go_wp2
                        go_meet
                        case rel => exact ⟨false, rfl, (fun h => by cases h), (fun _ => Hr.out), nq, rfl⟩
                      · have n1 : (kd != 1) = true := by simp [hk2]
                        have e2 : (kd == 2) = true := by simp [hk2]
                        by_cases hcf : c = fc'
                        · have ec : (c != fc') = false := by simp [hcf]
                          have q1 : 1 ≤ ch := P6.out hk2
                          have q2 : (ch == 0) = false := by simp; omega
                          by_cases hm : c % ch = 0
                          · have em : (c.tmod ch != 0) = false := by rw [Int.tmod_eq_emod_of_nonneg (by omega), hm]; rfl
                            have em' : (c % ch != 0) = false := by rw [hm]; rfl
                            have Hr := Lib.hid (show ((kd = 1 ∨ c = fc') ∧ (kd = 2 → c % ch = 0)) from ⟨.inr hcf, fun _ => hm⟩)
                            clear hk2 hcf hm
                            go_quiet (fail)
                            go_wp2
                            go_meet
                            case rel => exact ⟨false, rfl, (fun h => by cases h), (fun _ => Hr.out), nq, rfl⟩
                          · have em' : (c % ch != 0) = true := by simpa using hm
                            have em : (c.tmod ch != 0) = true := by rw [Int.tmod_eq_emod_of_nonneg (by omega)]; exact em'
                            have Hr := Lib.hid (mod_f (kd := kd) (ch := ch) hlt hk2 (by rw [Hx.out]; exact hm))
                            clear hk2 hcf hm
                            go_quiet (fail)
                            go_wp2
                            go_meet
                            case rel => exact ⟨true, rfl, (fun _ => Hr.out), (fun h => by cases h), nq, rfl⟩
                        · have ec : (c != fc') = true := by simpa using hcf
                          have Hr := Lib.hid (sound_row (ch := ch) hlt (row_cnt (kd := kd) (by omega) (by rw [Hx.out, Hf.out]; exact hcf)))
                          clear hk2 hcf
                          go_quiet (fail)
                          go_wp2
                          go_meet
                          case rel => exact ⟨true, rfl, (fun _ => Hr.out), (fun h => by cases h), nq, rfl⟩
                      · have n1 : (kd != 1) = true := by simp [hk3]
                        have e2 : (kd == 2) = false := by simp [hk3]
                        by_cases hcf : c = fc'
                        · have ec : (c != fc') = false := by simp [hcf]
                          have Hr := Lib.hid (show ((kd = 1 ∨ c = fc') ∧ (kd = 2 → c % ch = 0)) from ⟨.inr hcf, fun h => by omega⟩)
                          clear hk3 hcf
                          go_quiet (fail)
                          go_wp2
                          go_meet
                          case rel => exact ⟨false, rfl, (fun h => by cases h), (fun _ => Hr.out), nq, rfl⟩
                        · have ec : (c != fc') = true := by simpa using hcf
                          have Hr := Lib.hid (sound_row (ch := ch) hlt (row_cnt (kd := kd) (by omega) (by rw [Hx.out, Hf.out]; exact hcf)))
                          clear hk3 hcf
                          go_quiet (fail)
                          go_wp2
                          go_meet
                          case rel => exact ⟨true, rfl, (fun _ => Hr.out), (fun h => by cases h), nq, rfl⟩
                  case rest =>
                    obtain ⟨t, rfl, ht1, ht2, n, rfl⟩ := hcut
                    have HV2 := Lib.hid (HV.out.drewN n)
                    have HX2 := Lib.hid (show (W2.drewN n).heap[X]? = _ from HX.out)
                    clear HV HX x0 x1 x2 v0 v1 v2 c0 c1 c2 hb
                    cases t with
                    | true =>
                      have Hr := Lib.hid (ht1 rfl)
                      clear ht1 ht2
                      go_wp2
                      go_ret
                      exact ⟨ret_bool Hr.out.symm, HV2.out.below⟩
                    | false =>
                      have Ht := Lib.hid (ht2 rfl)
                      clear ht1 ht2
                      obtain ⟨W3, hW3⟩ : ∃ W3, W3 = W2.drewN n := ⟨_, rfl⟩
                      rw [← hW3] at HV2 HX2 ⊢
                      clear hW3
                      go_wp2
                      go_loopw [7] (fun s7 wx => ∃ m : Nat, m ≤ k ∧ s7 = .int .i64 m ∧ (∀ j, j < m → badB kd (at0 L k) (at0 L j) = false) ∧ wx.heap[X]? = some (.cells #[.int .i64 d, .int .i64 s, .int .i64 c] 35 (0, 0)) ∧ VS w V kd ch (some ⟨b, o, none⟩) L cap wx) (fun s7 _ => k - (intOf s7).toNat)
                      case atStart => exact ⟨0, by omega, rfl, fun j hj => by omega, HX2.out, HV2.out⟩
                      case round =>
                        clear HV2 HX2
                        obtain ⟨m, hm, rfl, hbad, hX, hV⟩ := hrel
                        have Hbad := Lib.hid hbad
                        clear hbad
                        by_cases hml : m < k
                        · obtain ⟨d', s', c', hb, he', c0, c1, c2⟩ := hV.pa.get (show m < L.length by omega)
                          obtain ⟨v0, v1, v2⟩ := hV.cell
                          have hy := at0_some he'
                          obtain ⟨b1, b2, b3, b4, b5, b6⟩ := seg_t (show segB (d', s', c') = true by rw [← hy]; exact Hseg.out m hml)
                          simp only at b1 b2 b3 b4 b5 b6
                          have Hy := Lib.hid hy
                          have x0 := cells_at hX 0
                          have x1 := cells_at hX 1
                          have x2 := cells_at hX 2
                          simp only [List.getElem?_toArray, List.getElem?_cons_zero, List.getElem?_cons_succ] at x0 x1 x2
                          have lX := bk_lt hX
                          have hXY : ¬ X = wr.heap.size := by omega
                          have HX := Lib.hid hX
                          have HV := Lib.hid hV
                          have lV := hV.lt
                          clear he' hy hX hV
                          obtain ⟨Wr, rfl⟩ : ∃ Wr : World, Wr = wr := ⟨_, rfl⟩
                          go_upto_region 17 with fail
                          go_cut [145] (fun s145 wx => ∃ t, s145 = .bool t ∧ badB kd (d, s, c) (d', s', c') = t ∧ Wr.alloc (.cells #[.int .i64 d', .int .i64 s', .int .i64 c'] 35 (0, 0)) = wx)
                          case first =>
                            have HXn := Lib.hid hXY
                            clear hXY
                            cases hdd : (d' == d) with
                            | false =>
                              have Hb := Lib.hid (show badB kd (d, s, c) (d', s', c') = false by
                                have : d ≠ d' := by rintro rfl; simp at hdd
                                simp [badB, ovB, this])
                              have hXY := HXn.out
                              go_wp2
                              go_meet
                              case rel => exact ⟨_, rfl, Hb.out, rfl⟩
                            | true =>
                              obtain rfl : d' = d := by simpa using hdd
                              clear hdd
                              have hXY := HXn.out
                              by_cases k3 : kd = 3
                              · have Hb := Lib.hid (show badB kd (d', s, c) (d', s', c') = true by simp [badB, k3])
                                have e3 : (kd == 3) = true := by simp [k3]
                                clear k3
                                go_wp2
                                go_meet
                                case rel => exact ⟨_, rfl, Hb.out, rfl⟩
                              · have e3 : (kd == 3) = false := by simp [k3]
                                have Hb := Lib.hid (show badB kd (d', s, c) (d', s', c') = (decide (s' < s + c) && decide (s < s' + c')) by rw [Bool.eq_iff_iff]; simp [badB, ovB, k3]; omega)
                                clear k3
                                by_cases t1 : s' < s + c
                                · go_wp2
                                  go_meet
                                  case rel => exact ⟨_, rfl, (by rw [Hb.out, decide_eq_true (by omega)]; rfl), rfl⟩
                                · go_wp2
                                  go_meet
                                  case rel => exact ⟨_, rfl, (by rw [Hb.out, decide_eq_false (by omega)]; rfl), rfl⟩
                          case rest =>
                            obtain ⟨t, rfl, hb, rfl⟩ := hcut
                            clear x0 x1 x2 v0 v1 v2 c0 c1 c2
                            have HX2 := Lib.hid (bk_alloc HX.out (.cells #[.int .i64 d', .int .i64 s', .int .i64 c'] 35 (0, 0)))
                            have HV2 := Lib.hid (HV.out.alloc (.cells #[.int .i64 d', .int .i64 s', .int .i64 c'] 35 (0, 0)))
                            cases t with
                            | true =>
                              have Hr := Lib.hid (sound_row (kd := kd) (ch := ch) hlt (row_bad hml (by rw [Hx.out, Hy.out]; exact hb)))
                              clear hb
                              go_wp2
                              go_ret
                              exact ⟨ret_bool Hr.out.symm, HV2.out.below⟩
                            | false =>
                              have Hb0 := Lib.hid (show badB kd (at0 L k) (at0 L m) = false by rw [Hx.out, Hy.out]; exact hb)
                              clear hb
                              go_wp2
                              go_roundw
                              case rel => exact ⟨m + 1, by omega, by go_num, fun j hj => by
                                by_cases hjm : j < m
                                · exact Hbad.out j hjm
                                · obtain rfl : j = m := by omega
                                  exact Hb0.out, HX2.out, HV2.out⟩
                              case measure => simp [intOf]; omega
                        · obtain rfl : m = k := by omega
                          obtain ⟨v0, v1, v2⟩ := hV.cell
                          have x0 := cells_at hX 0
                          have x1 := cells_at hX 1
                          have x2 := cells_at hX 2
                          simp only [List.getElem?_toArray, List.getElem?_cons_zero, List.getElem?_cons_succ] at x0 x1 x2
                          have HV := Lib.hid hV
                          have Hr := Lib.hid (row_ok (kd := kd) Hbad.out (by rw [Hx.out, Hf.out]; exact Ht.out.1))
                          clear hX hV hm hml
                          go_wp2
                          go_roundw
                          case rel => exact ⟨m + 1, by omega, by go_num, by rw [Hsum.out], fun j hj => by
                            by_cases hjm : j < m
                            · exact Hseg.out j hjm
                            · obtain rfl : j = m := by omega
                              rw [Hx.out]; exact Hsx.out, fun j hj => by
                            by_cases hjm : j < m
                            · exact Hrow.out j hjm
                            · obtain rfl : j = m := by omega
                              exact Hr.out, fun h2 j hj => by
                            by_cases hjm : j < m
                            · exact Hmod.out h2 j hjm
                            · obtain rfl : j = m := by omega
                              rw [Hx.out]; exact Ht.out.2 h2, HV.out⟩
                          case measure => simp [intOf]; omega
          · obtain rfl : k = L.length := by omega
            obtain ⟨v0, v1, v2⟩ := HV.out.cell
            obtain ⟨fd', fs', fc', hb, he, c0, c1, c2⟩ := HV.out.pa.get (i := 0) (by omega)
            have hfe := (at0_some he).symm.trans Hf.out
            simp only [Prod.mk.injEq] at hfe
            obtain ⟨rfl, rfl, rfl⟩ := hfe
            simp only [Nat.zero_mul, Nat.add_zero] at c0 c1 c2
            clear he
            have Hal := Lib.hid (ref_ok Hp.out Hseg.out Hrow.out (fun h2 => Hmod.out h2 0 (by omega)))
            by_cases k3 : kd = 3
            · have hz := Hal.out
              rw [show sizeV kd L = fc' from by unfold sizeV; rw [if_pos k3, Hf.out]] at hz
              have Hz := Lib.hid hz
              have e3 : (kd == 3) = true := by simp [k3]
              clear hz k3
              go_wp2
              go_ret
              exact ⟨ret_bool Hz.out.symm, HV.out.below⟩
            · have hz := Hal.out
              rw [show sizeV kd L = sumK L L.length from by unfold sizeV; rw [if_neg k3]] at hz
              have Hz := Lib.hid hz
              have e3 : (kd == 3) = false := by simp [k3]
              clear hz k3
              go_wp2
              go_ret
              exact ⟨ret_bool Hz.out.symm, HV.out.below⟩

end Go.Proofs.Ytdeggdbaeeamiaa
