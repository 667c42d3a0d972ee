/-
  Package layout's Runs, by contract.
-/
import Derived.Test.YtjnaphhbkbigcaaLay7
import Derived.Deep.CutRange
namespace Go.Proofs.Ytjnaphhbkbigcaa
open Go.RowKit
set_option linter.unusedVariables false
set_option linter.unusedSimpArgs false

theorem ZA.drop {w : World} {b o : Nat} {zs : List Int} (h : ZA w (some ⟨b, o, none⟩) zs) (n : Nat) : ZA w (some ⟨b, o + n, none⟩) (zs.drop n) := by
  rcases h with h | ⟨b', o', e, h2, h3⟩
  · exact .inl (by rw [h]; simp)
  · injection e with e
    injection e with e1 e2
    subst e1; subst e2
    refine .inr ⟨b, o + n, rfl, h2, fun i z hi => ?_⟩
    rw [List.getElem?_drop] at hi
    have := h3 (n + i) z hi
    rw [show o + n + i = o + (n + i) by omega]
    exact this
theorem OwnZ.za {w : World} {base : Nat} {v : Value} {zs : List Int} (h : OwnZ w base v zs) : ∃ A cap, v = .slice A zs.length cap ∧ zs.length ≤ cap ∧ ZA w A zs := by
  rcases h.parts with ⟨rfl, rfl⟩ | ⟨g, cap, cur, rfl, _, hlt, hgh, hn, _, _, ht⟩
  · exact ⟨none, 0, rfl, Nat.le_refl _, .inl rfl⟩
  · refine ⟨_, cap, rfl, hn, .inr ⟨g, 0, rfl, hlt, fun i z hi => ?_⟩⟩
    have hil : i < zs.length := (List.getElem?_eq_some_iff.1 hi).1
    rw [Nat.zero_add, h.cellAt i (by omega), List.getElem?_map, hi]
    rfl
theorem drop_cons {α : Type} {l : List α} {k : Nat} {x : α} (h : l[k]? = some x) : l.drop k = x :: l.drop (k + 1) := by
  obtain ⟨hk, he⟩ := List.getElem?_eq_some_iff.1 h
  rw [List.drop_eq_getElem_cons hk, he]
theorem runsP_len (s : Int) (pages : List Int) (most : Int) : (runsP s pages most).length ≤ 8 := by
  unfold runsP
  split
  · exact runsF_len s most 8 _
  · simp
set_option maxRecDepth 100000 in
set_option maxHeartbeats 4000000 in
theorem runs_w (s most : Int) (A : Option Addr) (pages : List Int) (cap : Nat) (w : World) (h : ZA w A pages) (hl : pages.length ≤ 1000) :
    Calls Try.prog 20 #[.int .i64 s, .slice A pages.length cap, .int .i64 most] w (RetSp (runsP s pages most) w) := by
  have hk := fun w => known_w s w
  have HB0 := Lib.hid (fun o : Obj => (Below.refl w.heap.size w).alloc (Nat.le_refl _) o)
  by_cases h0 : 0 ≤ s ∧ s < 7
  · rw [decide_eq_true h0] at hk
    by_cases h2 : most < 2
    · have HR := Lib.hid (show runsP s pages most = [] by unfold runsP; rw [if_neg (by omega)])
      clear h h0
      go_enter Try.func20, Try.ntmps20
      go_wp2_with (go_at_call 25; (with_reducible refine Calls.mono (hk _) ?_); rintro e w1 ⟨rfl, rfl⟩)
      go_ret
      exact ⟨_, rfl, by rw [HR.out]; exact SpA.nil _, HB0.out _⟩
    · have Hps := Lib.hid (ps_eq h0 pages)
      have HR := Lib.hid (show runsP s pages most = runsF s most 8 (psP pages) by unfold runsP; rw [if_pos (by omega)])
      obtain ⟨s0, s1⟩ := h0
      have HP := Lib.hid (h.alloc (.cells #[.int .i64 s] 3))
      obtain ⟨P0, hP0⟩ : ∃ P0, w.heap.size = P0 := ⟨_, rfl⟩
      have HP0 := Lib.hid hP0
      clear h hP0
      go_enter Try.func20, Try.ntmps20
      go_upto_region 0 with fail
      go_cut [3] (fun s3 wx => s3 = .pointer (some ⟨P0, 0, none⟩) ∧ wx = w.alloc (.cells #[.int .i64 s] 3))
      case first =>
        go_wp2
        go_meet
        case rel => exact ⟨by rw [HP0.out], rfl⟩
      case rest =>
        obtain ⟨rfl, hwc⟩ := hcut
        have hcell : wc.heap[P0]? = some (.cells #[.int .i64 s] 3 (0, 0)) := by rw [hwc, ← HP0.out]; exact heap_alloc_new _ _
        have HB1 := Lib.hid (show Below w.heap.size w wc by rw [hwc]; exact HB0.out _)
        have HZ := Lib.hid (show ZA wc A pages by rw [hwc]; exact HP.out)
        have HWs := Lib.hid (show wc.heap.size = P0 + 1 by rw [hwc, ← HP0.out]; simp)
        have HC := Lib.hid hcell
        have c0 := cells_at hcell 0
        simp only [List.getElem?_toArray, List.getElem?_cons_zero] at c0
        clear hwc hcell HP HB0
        obtain ⟨W, hWe⟩ : ∃ W : World, W = wc := ⟨_, rfl⟩
        subst hWe
        go_upto_region 3 with (go_at_call 25; (with_reducible refine Calls.mono (hk _) ?_); rintro e w1 ⟨rfl, rfl⟩)
        go_cut [7] (fun s7 wx => OwnZ wx W.heap.size s7 (pages.filter fun x => !badP s x) ∧ Below W.heap.size W wx)
        case first =>
          go_wp2_with (first
            | (go_at_call 28; (with_reducible refine Calls.mono (clone_w A pages cap _ HZ.out hl) ?_); rintro e w1 ⟨v1, rfl, ho1, hb1⟩; have O1 := Lib.hid ho1; have B1 := Lib.hid hb1; have C1 := Lib.hid (bk_step HC.out hb1); clear ho1 hb1 c0)
            | (go_at_call 27; (with_reducible refine Calls.mono (delete_own W.heap.size P0 s v1 pages _ O1.out B1.out.size (by rw [HWs.out]; omega) (by simpa using cells_at C1.out 0) hl) ?_); rintro e w2 ⟨v2, rfl, ho2, hb2⟩; have O2 := Lib.hid ho2; have B2 := Lib.hid (B1.out.trans hb2); clear ho2 hb2))
          go_meet
          case rel => exact ⟨O2.out, B2.out⟩
        case rest =>
          have hfl : (pages.filter fun x => !badP s x).length ≤ 1000 := Nat.le_trans (List.length_filter_le _ _) hl
          generalize (pages.filter fun x => !badP s x) = fs at Hps hcut hfl
          obtain ⟨hown, hW⟩ := hcut
          have Hown := Lib.hid hown
          have HW := Lib.hid hW
          have srt := sort_own W.heap.size u7 fs wc hown hW.size hfl
          have hlen : (fs.mergeSort (fun x y => decide (x ≤ y))).length ≤ 1000 := by rw [List.length_mergeSort]; exact hfl
          generalize fs.mergeSort (fun x y => decide (x ≤ y)) = ts at Hps srt hlen
          clear hown hW
          go_upto_region 6 with (first
            | (go_at_call 30; (with_reducible refine Calls.mono srt ?_); rintro e w1 ⟨rfl, ho1, hb1⟩; have B1 := Lib.hid (HW.out.trans hb1); have cmp := compact_own W.heap.size u7 ts w1 ho1 B1.out.size hlen; rw [Hps.out] at cmp; clear ho1 hb1)
            | (go_at_call 31; (with_reducible refine Calls.mono cmp ?_); rintro e w2 ⟨v2, rfl, ho2, hb2⟩; have O2 := Lib.hid ho2; have B2 := Lib.hid (B1.out.trans hb2); clear ho2 hb2 cmp))
          obtain ⟨A2, cap2, hv2, hcap2, hza2⟩ := O2.out.za
          subst hv2
          have hpr := ps_range (pages := pages)
          have hpl := ps_len pages
          have HRL := Lib.hid (runsP_len s pages most)
          generalize psP pages = ps at HR hcap2 hza2 hpr hpl
          have HZ2 := Lib.hid hza2
          have Hpr := Lib.hid hpr
          have HC2 := Lib.hid (bk_step HC.out B2.out)
          have HBW := Lib.hid (bl_step HB1.out B2.out)
          clear hza2 hpr srt HW Hown B1 O2 Hps HC
          obtain ⟨W2, hW2⟩ : ∃ W2 : World, W2 = w2 := ⟨_, rfl⟩
          subst hW2
          obtain ⟨i0, hi, hz0, hz1, hz2⟩ := info_parts sp_info
          go_wp2
          go_loopw [7, 8] (fun s7 s8 wx => ∃ (rest : List Int) (A' : Option Addr) (cap' f : Nat) (acc : List Sp), s7 = .slice A' rest.length cap' ∧ rest.length ≤ cap' ∧ ZA W2 A' rest ∧ wx.ownsRow W2.heap.size 36 2 s8 acc.length (sps acc) ∧ runsP s pages most = acc ++ runsF s most f rest ∧ rest.length ≤ f ∧ (∀ x ∈ rest, 0 ≤ x ∧ x < 8) ∧ rest.length ≤ 8 ∧ Below W2.heap.size W2 wx) (fun s7 _ _ => match s7 with | .slice _ n _ => n | _ => 0)
          case atStart => exact ⟨ps, A2, cap2, 8, [], rfl, hcap2, HZ2.out, World.ownsRow_nil _ _ _ _, by rw [HR.out]; rfl, hpl, Hpr.out, hpl, Below.refl _ _⟩
          case round =>
            clear HR hcap2 hpl HZ2 Hpr
            obtain ⟨rest, A', cap', f, acc, rfl, hcap', hza, hown, hE, hf, hpr, hpl, hW⟩ := hrel
            have HZ2 := Lib.hid hza
            have Hown := Lib.hid hown
            have HE := Lib.hid hE
            have Hpr := Lib.hid hpr
            have HW := Lib.hid hW
            have hacc : acc.length ≤ 8 := by
              have h1 := HRL.out
              rw [hE, List.length_append] at h1
              omega
            clear hza hown hE hpr hW
            match rest, hcap', hf, hpl, HZ2, HE, Hpr with
            | [], hcap', hf, hpl, HZ2, HE, Hpr =>
              have HX := Lib.hid (show runsP s pages most = acc by rw [HE.out]; cases f <;> simp [runsF])
              clear HZ2 HE Hpr hf hcap'
              go_wp2
              go_ret
              exact ⟨_, rfl, by rw [HX.out]; exact SpA.of_own Hown.out (by unfold maxLen; omega), bl_step HBW.out HW.out⟩
            | a :: l, hcap', hf, hpl, HZ2, HE, Hpr =>
              obtain ⟨f, rfl⟩ : ∃ g, f = g + 1 := ⟨f - 1, by simp only [List.length_cons] at hf; omega⟩
              obtain ⟨N, hN⟩ : ∃ N, runN most a 1 l = N := ⟨_, rfl⟩
              have HE2 := Lib.hid (show runsP s pages most = acc ++ [(pgP s a, (N : Int) * 2)] ++ runsF s most f ((a :: l).drop N) by rw [HE.out]; simp only [runsF]; rw [hN]; simp)
              have hNr := runN_ge most l a 1
              rw [hN] at hNr
              have HN0 := Lib.hid hN
              have ha0 : (a :: l)[0]? = some a := rfl
              have hlen' : (a :: l).length = l.length + 1 := rfl
              generalize hR : a :: l = R at hcap' hpl hf HZ2 HE2 Hpr ha0 hlen' ⊢
              have HR0 := Lib.hid hR
              clear hR
              have Ha0 := Lib.hid ha0
              have hR1 : 0 < (R.length : Int) := by omega
              have Hf := Lib.hid (show R.length ≤ f + 1 by omega)
              clear HE hN ha0
              obtain ⟨b, o, _, rfl, lb, _, _⟩ := HZ2.out.at_ (i := 0) (by omega)
              have hcl : R.length ≤ 8 := hpl
              have hNr1 : 1 ≤ N ∧ N ≤ R.length := by omega
              have Hln := Lib.hid hlen'
              clear hlen' hf hNr
              go_upto_block 2 with fail
              go_cut [9] from 26 to 73 (fun s9 wx => s9 = .int .i64 N ∧ wx.ownsRow W2.heap.size 36 2 u8 acc.length (sps acc) ∧ Below W2.heap.size W2 wx)
              case first =>
                go_wp2_with fail
                go_loopw [9] (fun s9 wx => ∃ (m : Nat) (y : Int), m < R.length ∧ s9 = .int .i64 ((m : Int) + 1) ∧ R[m]? = some y ∧ N = runN most y (m + 1) (R.drop (m + 1)) ∧ wx.ownsRow W2.heap.size 36 2 u8 acc.length (sps acc) ∧ Below W2.heap.size W2 wx) (fun s9 _ => R.length - (intOf s9).toNat)
                case atStart => exact ⟨0, a, by omega, rfl, Ha0.out, by rw [← HR0.out]; exact HN0.out.symm, Hown.out, HW.out⟩
                case round =>
                  clear Hown HW
                  obtain ⟨m, y, hm, rfl, hy, hNm, hown, hW⟩ := hrel
                  have Hown := Lib.hid hown
                  have HW := Lib.hid hW
                  have HNm := Lib.hid hNm
                  obtain ⟨b', o', y', eb, lb', he', cy⟩ := (HZ2.out.step hW).at_ hm
                  rw [hy] at he'
                  injection he' with he'
                  subst he'
                  injection eb with eb
                  injection eb with eb1 eb2
                  subst eb1; subst eb2
                  have yr := Hpr.out y (List.mem_of_getElem? hy)
                  obtain ⟨y0, y1⟩ := yr
                  have w1 := w64 (x := (m : Int) + 1) (by omega)
                  have w2 := w64 (x := (m : Int) + 1 - 1) (by omega)
                  have w3 := w64 (x := (m : Int) + 1 + 1) (by omega)
                  have w4 := w64 (x := ((m : Int) + 1 + 1) * 2) (by omega)
                  have w5 := w64 (x := y + 1) (by omega)
                  clear hown hNm hy
                  by_cases q1 : m + 1 < R.length
                  · obtain ⟨b'', o'', x, eb, _, hx, cx⟩ := (HZ2.out.step hW).at_ q1
                    injection eb with eb
                    injection eb with eb1 eb2
                    subst eb1; subst eb2
                    have Hx := Lib.hid hx
                    have HD := Lib.hid (show R.drop (m + 1) = x :: R.drop (m + 1 + 1) from drop_cons hx)
                    have t1 : ((m : Int) + 1) < (R.length : Int) := by omega
                    have e1 : decide ((m : Int) + 1 < (R.length : Int)) = true := decide_eq_true t1
                    have e1' : decide (m + 1 < R.length) = true := decide_eq_true q1
                    have t0 : (0 : Int) ≤ (m : Int) + 1 := by omega
                    have Hxr := Lib.hid (Hpr.out x (List.mem_of_getElem? hx))
                    clear hx hW
                    by_cases q2 : x = y + 1
                    · have e2 : (x == y + 1) = true := by simp [q2]
                      by_cases q3 : ((m : Int) + 1 + 1) * 2 ≤ most
                      · have HN1 := Lib.hid (show N = runN most x (m + 1 + 1) (R.drop (m + 1 + 1)) by rw [HNm.out, HD.out]; simp only [runN]; rw [if_pos ⟨q2, by omega⟩])
                        have e3 : decide (((m : Int) + 1 + 1) * 2 ≤ most) = true := decide_eq_true q3
                        clear q2
                        go_upto_region 9 with fail
                        go_quiet (fail)
                        go_wp2
                        go_roundw
                        case rel => exact ⟨m + 1, x, q1, by go_num, Hx.out, HN1.out, own_step Hown.out (below_drewN (Below.refl _ _) _), below_drewN HW.out _⟩
                        case measure => simp [intOf]; omega
                      · have HN1 := Lib.hid (show N = m + 1 by rw [HNm.out, HD.out]; simp only [runN]; rw [if_neg (by omega)])
                        have e3 : decide (((m : Int) + 1 + 1) * 2 ≤ most) = false := decide_eq_false q3
                        clear q2
                        go_upto_region 9 with fail
                        go_quiet (fail)
                        go_wp2
                        go_meet
                        case rel => exact ⟨by rw [HN1.out]; simp, own_step Hown.out (below_drewN (Below.refl _ _) _), below_drewN HW.out _⟩
                    · have e2 : (x == y + 1) = false := by simp [q2]
                      have HN1 := Lib.hid (show N = m + 1 by rw [HNm.out, HD.out]; simp only [runN]; rw [if_neg (by omega)])
                      clear q2
                      go_upto_region 9 with fail
                      go_quiet (fail)
                      go_wp2
                      go_meet
                      case rel => exact ⟨by rw [HN1.out]; simp, own_step Hown.out (below_drewN (Below.refl _ _) _), below_drewN HW.out _⟩
                  · have HN1 := Lib.hid (show N = m + 1 by rw [HNm.out, List.drop_eq_nil_of_le (by omega)]; rfl)
                    have e1 : decide ((m : Int) + 1 < (R.length : Int)) = false := decide_eq_false (by omega)
                    have e1' : decide (m + 1 < R.length) = false := decide_eq_false q1
                    clear hW
                    go_upto_region 9 with fail
                    go_quiet (fail)
                    go_wp2
                    go_meet
                    case rel => exact ⟨by rw [HN1.out]; simp, own_step Hown.out (below_drewN (Below.refl _ _) _), below_drewN HW.out _⟩
              case rest =>
                clear Hown HW
                obtain ⟨rfl, hown, hW⟩ := hcut
                have Hown := Lib.hid hown
                have HW := Lib.hid hW
                have n0 : (0 : Int) ≤ (N : Int) := by omega
                have n1 : (N : Int) ≤ (cap' : Int) := by omega
                have n2 : (N : Int) ≤ (R.length : Int) := by omega
                have n3 : (0 : Int) < (N : Int) := by omega
                have n4 : N ≤ cap' := by omega
                have n5 : 0 < N := by omega
                obtain ⟨b', o', z', eb, lb', he', ca⟩ := (HZ2.out.step hW).at_ (i := 0) (by omega)
                rw [Ha0.out] at he'
                injection he' with he'
                subst he'
                injection eb with eb
                injection eb with eb1 eb2
                subst eb1; subst eb2
                rw [Nat.add_zero] at ca
                have hP0c := bk_step HC2.out hW
                have lP0 := bk_lt hP0c
                have cP0 := cells_at hP0c 0
                simp only [List.getElem?_toArray, List.getElem?_cons_zero] at cP0
                have hpg := fun w => pg_w s a w
                generalize pgP s a = pg at hpg HE2
                have wN := w64 (x := (N : Int) * 2) (by omega)
                obtain ⟨W3, hW3⟩ : ∃ W3 : World, W3 = wc := ⟨_, rfl⟩
                subst hW3
                have hsz := hW.size
                clear hown hW hP0c
                go_upto_region 12 with fail
                refine wp_region_sp 11 75 [SP.eq u8, SP.eq (.int .i64 s), SP.eq (.slice (some ⟨b, o, none⟩) N N), SP.eq (.pointer (some ⟨b, o, none⟩)), SP.eq (.int .i64 a), SP.eq (.int .i64 pg), SP.eq (.slice (some ⟨b, o, none⟩) N N), SP.eq (.int .i64 N), SP.eq (.int .i64 ((N : Int) * 2)), SP.eq (.agg #[.int .i64 pg, .int .i64 ((N : Int) * 2)]), SP.blk 1 #[.int .i64 pg, .int .i64 ((N : Int) * 2)] 36] (by kernel_rfl) (by kernel_rfl) rfl ?_
                simp only [List.take_succ_cons, List.take_zero, List.drop_succ_cons, List.drop_zero]
                refine relWalk_cons (fun x hC hd K hK => ?_) (fun v0 => ?_)
                · go_simp
                  exact hK _ _ hC (Below.refl _ _) rfl
                simp only [Act.put, List.setIfInBounds_toArray, List.set_cons_zero, List.set_cons_succ]
                refine relWalk_cons (fun x hC hd K hK => ?_) (fun v1 => ?_)
                · have hcell := (hC.cell (p := ⟨P0, 0, none⟩) lP0).trans cP0
                  go_simp
                  exact hK _ _ hC (Below.refl _ _) rfl
                simp only [Act.put, List.setIfInBounds_toArray, List.set_cons_zero, List.set_cons_succ]
                refine relWalk_cons (fun x hC hd K hK => ?_) (fun v2 => ?_)
                · go_simp
                  exact hK _ _ hC (Below.refl _ _) rfl
                simp only [Act.put, List.setIfInBounds_toArray, List.set_cons_zero, List.set_cons_succ]
                refine relWalk_cons (fun x hC hd K hK => ?_) (fun v3 => ?_)
                · obtain rfl : v2 = _ := hd 2 (by kernel_rfl)
                  go_simp
                  exact hK _ _ hC (Below.refl _ _) rfl
                simp only [Act.put, List.setIfInBounds_toArray, List.set_cons_zero, List.set_cons_succ]
                refine relWalk_cons (fun x hC hd K hK => ?_) (fun v4 => ?_)
                · obtain rfl : v3 = _ := hd 3 (by kernel_rfl)
                  have hcell := (hC.cell (p := ⟨b, o, none⟩) lb').trans ca
                  go_simp
                  exact hK _ _ hC (Below.refl _ _) rfl
                simp only [Act.put, List.setIfInBounds_toArray, List.set_cons_zero, List.set_cons_succ]
                refine relWalk_cons (fun x hC hd K hK => ?_) (fun v5 => ?_)
                · obtain rfl : v1 = _ := hd 1 (by kernel_rfl)
                  obtain rfl : v4 = _ := hd 4 (by kernel_rfl)
                  go_simp
                  go_at_call 15
                  refine (hpg x).mono ?_
                  rintro e w1 ⟨rfl, rfl⟩
                  exact hK _ _ hC (Below.refl _ _) rfl
                simp only [Act.put, List.setIfInBounds_toArray, List.set_cons_zero, List.set_cons_succ]
                refine relWalk_cons (fun x hC hd K hK => ?_) (fun v6 => ?_)
                · go_simp
                  exact hK _ _ hC (Below.refl _ _) rfl
                simp only [Act.put, List.setIfInBounds_toArray, List.set_cons_zero, List.set_cons_succ]
                refine relWalk_cons (fun x hC hd K hK => ?_) (fun v7 => ?_)
                · obtain rfl : v6 = _ := hd 6 (by kernel_rfl)
                  go_simp
                  exact hK _ _ hC (Below.refl _ _) rfl
                simp only [Act.put, List.setIfInBounds_toArray, List.set_cons_zero, List.set_cons_succ]
                refine relWalk_cons (fun x hC hd K hK => ?_) (fun v8 => ?_)
                · obtain rfl : v7 = _ := hd 7 (by kernel_rfl)
                  go_simp
                  exact hK _ _ hC (Below.refl _ _) rfl
                simp only [Act.put, List.setIfInBounds_toArray, List.set_cons_zero, List.set_cons_succ]
                refine relWalk_cons (fun x hC hd K hK => ?_) (fun v9 => ?_)
                · obtain rfl : v5 = _ := hd 5 (by kernel_rfl)
                  obtain rfl : v8 = _ := hd 8 (by kernel_rfl)
                  go_simp
                  exact hK _ _ hC (Below.refl _ _) rfl
                simp only [Act.put, List.setIfInBounds_toArray, List.set_cons_zero, List.set_cons_succ]
                refine relWalk_cons (fun x hC hd K hK => ?_) (fun v10 => ?_)
                · obtain rfl : v9 = _ := hd 9 (by kernel_rfl)
                  go_simp
                  exact hK _ _ (bl_alloc hC _) ((Below.refl _ _).alloc (Nat.le_refl _) _) ⟨_, rfl, heap_alloc_new _ _⟩
                simp only [Act.put, List.setIfInBounds_toArray, List.set_cons_zero, List.set_cons_succ]
                refine relWalk_nil ?_
                intro x hC hG
                obtain rfl : v0 = _ := hG 0 (by omega)
                obtain ⟨g, e10, h10⟩ := hG 10 (by omega)
                obtain rfl : v10 = _ := e10
                have HW4 := Lib.hid (bl_step HW.out hC)
                have Hown2 := Lib.hid (own_step Hown.out hC)
                have hsz2 := HW4.out.size
                clear hG hC HW Hown cP0 ca wN
                go_wp2_with (at_builtin; go_loud (refine wpList_append_lies _ rfl (.tmp 59) (.tmp 69) 34 rfl W2.heap.size 36 i0 _ 2 16 Try.underlying34 hi hz0 hz1 hz2 rfl (by omega) _ acc.length (sps acc) rfl Hown2.out ⟨g, 0, none⟩ 1 1 [.int .i64 pg, .int .i64 ((N : Int) * 2)] rfl rfl (World.news_of_block h10) (by simp [Value.oneCell']) (by omega) (by unfold maxLen; omega) (by omega) hsz2 _ rfl ?_); intro gg cap4 w4 hown4 hg4 hat4 hlt4)
                go_roundw
                case rel =>
                  refine ⟨R.drop N, (if cap' = N then some ⟨b, o, none⟩ else some ⟨b, o + N, none⟩), cap' - N, f, acc ++ [(pg, (N : Int) * 2)], ?_, ?_, (by split; exact .inl (List.drop_eq_nil_of_le (by omega)); exact HZ2.out.drop N), own_sp hown4, HE2.out, ?_, fun x hx => Hpr.out x (List.mem_of_mem_drop hx), ?_, HW4.out.grown hg4 hsz2 (fun g hg => (Hown2.out.lt g hg).1)⟩
                  · rw [List.length_drop]
                  · rw [List.length_drop]; omega
                  · rw [List.length_drop]; have := Hf.out; omega
                  · rw [List.length_drop]; omega
                case measure =>
                  show R.length - N < R.length
                  omega
  · rw [decide_eq_false h0] at hk
    have HR := Lib.hid (show runsP s pages most = [] by unfold runsP; rw [if_neg (by omega)])
    clear h h0
    go_enter Try.func20, Try.ntmps20
    go_wp2_with (go_at_call 25; (with_reducible refine Calls.mono (hk _) ?_); rintro e w1 ⟨rfl, rfl⟩)
    go_ret
    exact ⟨_, rfl, by rw [HR.out]; exact SpA.nil _, HB0.out _⟩

end Go.Proofs.Ytjnaphhbkbigcaa
