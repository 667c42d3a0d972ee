/-
  The law RadixWalks, by contracts.
-/
import Derived.Test.YtpoagdffpajdjaaRadY
import Derived.Deep.CutRange
namespace Go.Proofs.Ytpoagdffpajdjaa
open Go.RowKit
set_option linter.unusedVariables false
set_option linter.unusedSimpArgs false

/-- The indices with a mark; those from an index on. -/
def wl (l : List En) (m : Int) : List Int := (l.filter (cntB m)).map (·.1)
def fromL (l : List En) (fr m : Int) : List Int := (l.filter (tstB fr m)).map (·.1)
theorem wl_snoc {l : List En} {m : Int} {k : Nat} {e : En} (h : l[k]? = some e) : wl (l.take (k + 1)) m = wl (l.take k) m ++ if cntB m e then [e.1] else [] := by
  unfold wl
  rw [List.take_add_one, h, Option.toList_some, List.filter_append, List.map_append]
  cases hc : cntB m e <;> simp [hc]
theorem wl_len (l : List En) (m : Int) : (wl l m).length = countP l m := by
  unfold wl countP
  rw [List.length_map, List.countP_eq_length_filter]
theorem fromL_none {l : List En} {fr m : Int} (h : (nextP l fr m).2 = false) : fromL l fr m = [] := by
  unfold fromL
  rw [List.map_eq_nil_iff, List.filter_eq_nil_iff]
  unfold nextP at h
  cases hf : l.find? (tstB fr m) with
  | none => rw [List.find?_eq_none] at hf; exact hf
  | some e => rw [hf] at h; cases h
theorem fromL_next {fr m : Int} : ∀ {l : List En}, l.Pairwise (fun a b => a.1 < b.1) → (nextP l fr m).2 = true → fromL l fr m = (nextP l fr m).1 :: fromL l ((nextP l fr m).1 + 1) m
  | [], _, h => by cases h
  | e :: l, hs, h => by
    rw [List.pairwise_cons] at hs
    cases ht : tstB fr m e with
    | true =>
      have hn : nextP (e :: l) fr m = (e.1, true) := by unfold nextP; rw [List.find?_cons, ht]
      have hfr : fr ≤ e.1 := by unfold tstB at ht; simp only [Bool.and_eq_true, decide_eq_true_eq] at ht; exact ht.1
      rw [hn]
      unfold fromL
      have h0 : tstB (e.1 + 1) m e = false := by unfold tstB; rw [decide_eq_false (by omega)]; rfl
      rw [List.filter_cons_of_pos ht, List.filter_cons_of_neg (by rw [h0]; simp), List.map_cons]
      congr 2
      apply List.filter_congr
      intro x hx
      have hlt := hs.1 x hx
      unfold tstB
      rw [decide_eq_true (show fr ≤ x.1 by omega), decide_eq_true (show e.1 + 1 ≤ x.1 by omega)]
    | false =>
      have hn : nextP (e :: l) fr m = nextP l fr m := by unfold nextP; rw [List.find?_cons, ht]
      rw [hn] at h ⊢
      have h1 := fromL_next hs.2 h
      obtain ⟨_, h2, _⟩ := cntFrom_next hs.2 h
      unfold fromL at h1 ⊢
      have h0 : tstB ((nextP l fr m).1 + 1) m e = false := by
        cases hc : tstB ((nextP l fr m).1 + 1) m e with
        | false => rfl
        | true => rw [tst_split (by omega) hc] at ht; cases ht
      rw [List.filter_cons_of_neg (by rw [ht]; simp), List.filter_cons_of_neg (by rw [h0]; simp), h1]
theorem fromL_zero {l : List En} {m : Int} (h : ∀ e ∈ l, 0 ≤ e.1) : fromL l 0 m = wl l m := by
  unfold fromL wl
  congr 1
  apply List.filter_congr
  intro x hx
  unfold tstB cntB
  rw [decide_eq_true (h x hx), Bool.true_and]
set_option maxRecDepth 100000 in
set_option maxHeartbeats 4000000 in
theorem radixWalks_walk (a0 : Option Addr) (len0 cap0 : Nat) (z0 : List Int) (a1 : Int) (w : World) (w0 : IsRow .i64 w a0 len0 cap0 z0) :
    Calls Try.prog 4 #[.slice a0 len0 cap0, .int .i64 a1] w fun e w' => e = .returned (.bool true) ∧ Below w.heap.size w w' := by
  have HT := Lib.hid (Tp.start w0)
  clear w0
  go_enter Try.func4, Try.ntmps4
  go_upto_region 1 with fail
  go_cut [5] (fun s5 wx => ∃ (Z : Nat) (hI : Int) (A : Option Addr) (n cap : Nat) (v m : Int) (es : List En), s5 = .pointer (some ⟨Z, 0, none⟩) ∧ wx.heap[Z]? = some (.cells #[.int .i64 hI, .slice A n cap, .int .i64 v, .int .i64 m] 28 (0, 0)) ∧ Beh (trV hI A n cap v m) true es wx ∧ es.Pairwise (fun a b => a.1 < b.1) ∧ (∀ e ∈ es, 0 ≤ e.1 ∧ e.1 < 256) ∧ Below w.heap.size w wx)
  case first =>
    go_wp2_with (first
      | (go_at_call 27; go_must (refine (tree_t w _ _ HT.out).mono ?_); rintro e w1 ⟨h, c, A, cap, rfl, hlf, hok, hcap, hk, hT1⟩)
      | (refine wpList_store_rowTo rfl 28 (.tmp 5) (.tmp 18) rfl rfl (w1.heap.size) #[.int .i64 (h : Int), .slice A (cano h c).kids.length cap, .int .i64 (cano h c).val, .int .i64 (cano h c).marks] rfl rfl 28 _ (heap_alloc_new _ _) tree_size rfl (tree_one _ _ _ _ _ _) ?_))
    go_meet
    case rel =>
      have hp : 4 ^ h ≤ 256 := show 4 ^ h ≤ 4 ^ 4 from Nat.pow_le_pow_right (by omega) hok.1
      have hst : Below w1.heap.size w1 ((w1.alloc (.cells #[.int .i64 0, .slice none 0 0, .int .i64 0, .int .i64 0] 28)).setRow w1.heap.size #[.int .i64 h, .slice A (cano h c).kids.length cap, .int .i64 (cano h c).val, .int .i64 (cano h c).marks]) := bl_setRow (bl_alloc (Below.refl _ _) _) (Nat.le_refl _) _
      exact ⟨w1.heap.size, h, A, _, cap, _, _, ents 0 (4 ^ h) c, rfl, setRow_heap _ _ _ _ _ _ (heap_alloc_new _ _), (Beh.good hlf hok hcap hk).step hst, ents_sorted _ _ _, fun e he => (by obtain ⟨j, hj, _, rfl⟩ := mem_ents.1 he; exact ⟨by show (0 : Int) ≤ ((0 + j : Nat) : Int); omega, by show ((0 + j : Nat) : Int) < 256; omega⟩), bl_step hT1.2.1 hst⟩
  case rest =>
    clear HT
    obtain ⟨Z, hI, A, n, cap, v, m, es, rfl, hZ, hbeh, hsrt, hrng, hB⟩ := hcut
    have HZ := Lib.hid hZ
    have HH := Lib.hid hbeh
    have HS := Lib.hid hsrt
    have HM := Lib.hid hrng
    have HB := Lib.hid hB
    clear hZ hbeh hsrt hrng hB
    go_upto_region 2 with fail
    go_cut [6] (fun s6 wx => ∃ mark, s6 = .int .i64 mark ∧ (mark = 0 ∨ oneB mark = true) ∧ Below wc.heap.size wc wx)
    case first =>
      have h4 := fun w => cut_w a1 4 w (by omega) (by omega)
      have ⟨q0, q1⟩ := cutI_range a1 4 (by omega)
      generalize cutI a1 4 = q at h4 q0 q1
      have hq : q = 0 ∨ q = 1 ∨ q = 2 ∨ q = 3 := by omega
      clear q0 q1
      rcases hq with rfl | rfl | rfl | rfl
      all_goals
        go_wp2_with (go_at_call 28; (with_reducible refine Calls.mono (h4 _) ?_); rintro e w1 ⟨rfl, rfl⟩)
        go_meet
        exact ⟨_, rfl, by decide, bl_alloc (Below.refl _ _) _⟩
    case rest =>
      obtain ⟨mark, rfl, hmk, hb1⟩ := hcut
      have HMK := Lib.hid hmk
      clear hmk
      have HZ1 := Lib.hid (bk_step HZ.out hb1)
      have HH1 := Lib.hid (HH.out.step hb1)
      have HB1 := Lib.hid (bl_step HB.out hb1)
      clear HZ HH HB hb1
      have x0 := cells_at HZ1.out 0; have x1 := cells_at HZ1.out 1; have x2 := cells_at HZ1.out 2; have x3 := cells_at HZ1.out 3; simp only [List.getElem?_toArray, List.getElem?_cons_zero, List.getElem?_cons_succ] at x0 x1 x2 x3
      go_upto_region 4 with fail
      go_cut [9] (fun s9 wx => EA wx (fun z => z < wx.heap.size) s9 es ∧ Below wc.heap.size wc wx)
      case first =>
        go_wp2_with (go_at_call 24; go_must (refine (HH1.out.en _ (Below.refl _ _)).mono ?_); rintro e w2 ⟨u, rfl, hown, hb2⟩)
        go_meet
        case rel => exact ⟨EA.of_own hown fun b hb => (hown.lt b hb).2, hb2⟩
      case rest =>
        obtain ⟨hE, hb1⟩ := hcut
        have HZ := Lib.hid (bk_step HZ1.out hb1)
        have HH := Lib.hid (HH1.out.step hb1)
        have HB := Lib.hid (bl_step HB1.out hb1)
        obtain ⟨B, ca, hv9, a1', a2', hE'⟩ := hE
        subst hv9
        have HE := Lib.hid hE'
        have hlen := HH.out.len
        clear HZ1 HH1 HB1 hb1 x0 x1 x2 x3 hE'
        obtain ⟨U, hU⟩ : ∃ U : World, U = wc := ⟨_, rfl⟩
        subst hU
        obtain ⟨i0, hi, hz0, hz1, hz2⟩ := info_parts int_info
        go_wp2
        go_loopw [7, 10] (fun s7 s10 wx => ∃ k : Nat, s10 = .int .i64 k ∧ k ≤ es.length ∧ wx.ownsRow U.heap.size 3 1 s7 (wl (es.take k) mark).length ((wl (es.take k) mark).map (Value.int .i64)) ∧ Below U.heap.size U wx) (fun s7 s10 _ => es.length - (intOf s10).toNat)
        case atStart => exact ⟨0, rfl, by omega, World.ownsRow_nil _ _ _ _, Below.refl _ _⟩
        case round =>
          obtain ⟨k, rfl, hk, hown, hBU⟩ := hrel
          have Hown := Lib.hid hown
          have HBU := Lib.hid hBU
          clear hown hBU
          by_cases hlt : k < es.length
          · obtain ⟨⟨d, s, c⟩, hx⟩ : ∃ x, es[k]? = some x := ⟨_, List.getElem?_eq_getElem hlt⟩
            have hsn := wl_snoc (m := mark) hx
            have hwl : (wl (es.take k) mark).length ≤ 256 := by rw [wl_len]; exact Nat.le_trans List.countP_le_length (by rw [List.length_take]; omega)
            generalize wl (es.take k) mark = L at Hown hsn hwl
            rcases HE.out with h0 | ⟨b, o, rfl, hbl, _, hce⟩
            · exfalso; rw [h0] at hlt; simp at hlt
            obtain ⟨p0, p1, p2⟩ := hce k d s c hx
            have p0 := (HBU.out.cell (p := ⟨b, _, none⟩) hbl).trans p0
            have p1 := (HBU.out.cell (p := ⟨b, _, none⟩) hbl).trans p1
            have p2 := (HBU.out.cell (p := ⟨b, _, none⟩) hbl).trans p2
            have HSN := Lib.hid hsn
            have k0 : (0 : Int) ≤ (k : Int) := by omega
            have k1 : (k : Int) < (es.length : Int) := by omega
            have hsU := HBU.out.size
            clear hsn hce hx
            by_cases hs : 0 < s
            · by_cases hm : mark = 0
              · have hcn : cntB mark (d, s, c) = true := by unfold cntB mkB; simp [hs, hm]
                subst hm
                go_wp2_with (at_builtin; go_loud (refine wpList_append_lies _ rfl (.tmp 52) (.tmp 58) 22 rfl U.heap.size 3 i0 _ 1 8 Try.underlying22 hi hz0 hz1 hz2 rfl (by omega) _ L.length (L.map (Value.int .i64)) rfl (Hown.out.alloc _) ⟨_, 0, none⟩ 1 1 [.int .i64 d] rfl rfl (World.news_of_block (heap_at_new _ _ _ (by first | rfl | simp))) (by simp [Value.oneCell']) (by omega) (by unfold maxLen; omega) (by omega) (by simp; omega) _ rfl ?_); intro gg cap4 w4 hown4 hg4 hat4 hlt4)
                all_goals try (exfalso; rename_i hh; exact ha (by simpa using hh.2))
                go_roundw
                case rel =>
                  have hs := HSN.out
                  rw [hcn, if_pos rfl] at hs
                  refine ⟨k + 1, by go_num, by omega, by rw [hs]; simpa using hown4, (bl_alloc HBU.out _).grown hg4 (by simp; omega) (fun z hz => (Hown.out.lt z hz).1)⟩
                case measure => simp [intOf]; omega
              · by_cases ha : bits .and .i64 c mark = 0
                · have hcn : cntB mark (d, s, c) = false := by unfold cntB mkB; simp [hm, ha]
                  go_wp2
                  all_goals
                    go_roundw
                    case rel =>
                      have hs := HSN.out
                      rw [hcn, if_neg (by simp), List.append_nil] at hs
                      exact ⟨k + 1, by go_num, by omega, by rw [hs]; exact Hown.out, HBU.out⟩
                    case measure => simp [intOf]; omega
                · have hcn : cntB mark (d, s, c) = true := by
                    unfold cntB mkB
                    rcases HMK.out with h | h
                    · exact absurd h hm
                    · simp [hs, h, ha]
                  go_wp2_with (at_builtin; go_loud (refine wpList_append_lies _ rfl (.tmp 52) (.tmp 58) 22 rfl U.heap.size 3 i0 _ 1 8 Try.underlying22 hi hz0 hz1 hz2 rfl (by omega) _ L.length (L.map (Value.int .i64)) rfl (Hown.out.alloc _) ⟨_, 0, none⟩ 1 1 [.int .i64 d] rfl rfl (World.news_of_block (heap_at_new _ _ _ (by first | rfl | simp))) (by simp [Value.oneCell']) (by omega) (by unfold maxLen; omega) (by omega) (by simp; omega) _ rfl ?_); intro gg cap4 w4 hown4 hg4 hat4 hlt4)
                  all_goals try (exfalso; rename_i hh; exact ha (by simpa using hh.2))
                  go_roundw
                  case rel =>
                    have hs := HSN.out
                    rw [hcn, if_pos rfl] at hs
                    refine ⟨k + 1, by go_num, by omega, by rw [hs]; simpa using hown4, (bl_alloc HBU.out _).grown hg4 (by simp; omega) (fun z hz => (Hown.out.lt z hz).1)⟩
                  case measure => simp [intOf]; omega
            · have hcn : cntB mark (d, s, c) = false := by unfold cntB; simp [hs]
              go_wp2
              all_goals
                go_roundw
                case rel =>
                  have hs := HSN.out
                  rw [hcn, if_neg (by simp), List.append_nil] at hs
                  exact ⟨k + 1, by go_num, by omega, by rw [hs]; exact Hown.out, HBU.out⟩
                case measure => simp [intOf]; omega
          · obtain rfl : k = es.length := by omega
            rw [List.take_length] at Hown
            obtain ⟨V, hV⟩ : ∃ V : World, V = wr := ⟨_, rfl⟩
            subst hV
            have HZV := Lib.hid (bk_step HZ.out HBU.out)
            have HHV := Lib.hid (HH.out.step HBU.out)
            have HBV := Lib.hid (bl_step HB.out HBU.out)
            have hwl : (wl es mark).length ≤ 256 := by rw [wl_len]; exact Nat.le_trans List.countP_le_length hlen
            clear HZ HH HB HBU HE
            go_wp2
            go_loopw [8, 11] (fun s8 s11 wx => ∃ (G : List Int) (fr : Int), s11 = .int .i64 fr ∧ 0 ≤ fr ∧ fr ≤ 256 ∧ wx.ownsRow V.heap.size 3 1 s8 G.length (G.map (Value.int .i64)) ∧ G ++ fromL es fr mark = wl es mark ∧ Below V.heap.size V wx) (fun _ s11 _ => 257 - (intOf s11).toNat)
            case atStart => exact ⟨[], 0, rfl, by omega, by omega, World.ownsRow_nil _ _ _ _, by rw [fromL_zero fun e he => (HM.out e he).1]; rfl, Below.refl _ _⟩
            case round =>
              obtain ⟨G, fr, rfl, f0, f1, hown, hG, hB⟩ := hrel
              obtain ⟨A8, c8, rfl⟩ := own_slice hown
              have Hg := Lib.hid hown
              have HB := Lib.hid hB
              have HGL := Lib.hid hG
              have hgl : (G.length : Int) ≤ 256 := by
                have := congrArg List.length hG
                rw [List.length_append] at this
                omega
              have hgl0 : G.length ≤ 256 := by omega
              have x0 := cells_at (bk_step HZV.out hB) 0; have x1 := cells_at (bk_step HZV.out hB) 1; have x2 := cells_at (bk_step HZV.out hB) 2; have x3 := cells_at (bk_step HZV.out hB) 3; simp only [List.getElem?_toArray, List.getElem?_cons_zero, List.getElem?_cons_succ] at x0 x1 x2 x3
              have hnx := HHV.out.nx fr mark wr hB
              have hsV := hB.size
              clear hown hB hG
              unfold RetNx at hnx
              cases hn : (nextP es fr mark).2 with
              | true =>
                obtain ⟨_, g2, e, he, g3⟩ := cntFrom_next HS.out hn
                obtain ⟨g4, g5⟩ := HM.out e he
                rw [g3] at g4 g5
                have HF := Lib.hid (fromL_next HS.out hn)
                rw [hn] at hnx
                generalize (nextP es fr mark).1 = ii at *
                have e1 := w64 (x := ii + 1) (by omega)
                clear hn he g3
                go_wp2_with (first
                  | (go_at_call 13; (with_reducible refine Calls.mono hnx ?_); rintro e w1 ⟨rfl, hb1⟩; have hs1 := hb1.size)
                  | (at_builtin; go_loud (refine wpList_append_lies _ rfl (.tmp 72) (.tmp 74) 22 rfl V.heap.size 3 i0 _ 1 8 Try.underlying22 hi hz0 hz1 hz2 rfl (by omega) _ G.length (G.map (Value.int .i64)) rfl ((own_step Hg.out hb1).alloc _) ⟨_, 0, none⟩ 1 1 [.int .i64 ii] rfl rfl (World.news_of_block (heap_at_new _ _ _ (by first | rfl | simp))) (by simp [Value.oneCell']) (by omega) (by unfold maxLen; omega) (by omega) (by simp; omega) _ rfl ?_); intro gg cap4 w4 hown4 hg4 hat4 hlt4))
                go_roundw
                case rel =>
                  refine ⟨G ++ [ii], ii + 1, rfl, by omega, by omega, by simpa using hown4, by rw [List.append_assoc]; rw [← HGL.out, HF.out]; rfl, (bl_alloc (bl_step HB.out hb1) _).grown hg4 (by simp; omega) (fun z hz => (Hg.out.lt z hz).1)⟩
                case measure => simp [intOf]; omega
              | false =>
                have hGe : wl es mark = G := by rw [← HGL.out, fromL_none hn, List.append_nil]
                rw [hn] at hnx
                have hct := fun w' hb => HHV.out.ct mark w' hb
                rw [← wl_len] at hct
                generalize wl es mark = Wl at *
                subst hGe
                obtain ⟨A7, c7, rfl⟩ := own_slice Hown.out
                have hwl' : (Wl.length : Int) ≤ 256 := by omega
                have HC := Lib.hid (fun w' hb => hct w' hb)
                clear hct
                go_wp2_with (first
                  | (go_at_call 13; (with_reducible refine Calls.mono hnx ?_); rintro e w1 ⟨rfl, hb1⟩; have hbV := bl_step HB.out hb1; clear x0 x1 x2 x3; have x0 := cells_at (bk_step HZV.out hbV) 0; have x1 := cells_at (bk_step HZV.out hbV) 1; have x2 := cells_at (bk_step HZV.out hbV) 2; have x3 := cells_at (bk_step HZV.out hbV) 3; simp only [List.getElem?_toArray, List.getElem?_cons_zero, List.getElem?_cons_succ] at x0 x1 x2 x3)
                  | (go_at_call 21; (with_reducible refine Calls.mono (HC.out _ hbV) ?_); rintro e w2 ⟨rfl, hb2⟩))
                have h7 := ZAs.of_own (own_step Hown.out (bl_step hbV hb2)) (by unfold maxLen; omega)
                have h8 := ZAs.of_own (own_step (own_step Hg.out hb1) hb2) (by unfold maxLen; omega)
                obtain ⟨B7, b7, e7, _, z7⟩ := h7
                obtain ⟨B8, b8, e8, _, z8⟩ := h8
                injection e7 with e7 _ f7
                injection e8 with e8 _ f8
                subst e7 e8 f7 f8
                have HBW := Lib.hid (bl_step HBV.out (bl_step hbV hb2))
                have HZ7 := Lib.hid z7
                have HZ8 := Lib.hid z8
                clear z7 z8 hbV hb2 hb1 x0 x1 x2 x3 HC
                go_loopw [14] (fun s14 wx => ∃ i : Nat, s14 = .int .i64 i ∧ i ≤ Wl.length ∧ Below w2.heap.size w2 wx) (fun s14 _ => Wl.length - (intOf s14).toNat)
                case atStart => exact ⟨0, rfl, by omega, Below.refl _ _⟩
                case round =>
                  obtain ⟨i, rfl, hi, hB⟩ := hrel
                  by_cases hlt : i < Wl.length
                  · obtain ⟨b7, o7, y7, rfl, l7, n7, k7⟩ := (HZ7.out.step hB).at_ hlt
                    obtain ⟨b8, o8, y8, rfl, l8, n8, k8⟩ := (HZ8.out.step hB).at_ hlt
                    rw [n7] at n8
                    injection n8 with n8
                    subst n8
                    have h0 : (0 : Int) ≤ (i : Int) := by omega
                    have hln : (i : Int) < (Wl.length : Int) := by omega
                    clear n7
                    go_wp2
                    go_quiet (fail)
                    go_wp2
                    go_roundw
                    case rel => exact ⟨i + 1, by go_num, by omega, below_drewN hB _⟩
                    case measure => simp [intOf]; omega
                  · obtain rfl : i = Wl.length := by omega
                    go_wp2_with (go_at_call 26; (with_reducible refine Calls.mono (awake_w _) ?_); rintro e w9 ⟨rfl, hb9⟩)
                    go_ret
                    exact ⟨rfl, bl_step HBW.out (bl_step hB hb9)⟩
end Go.Proofs.Ytpoagdffpajdjaa
