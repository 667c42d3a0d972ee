/-
  The law VolumeStripes: the walk.
-/
import Derived.Test.YtdeggdbaeeamiaaVolL
import Derived.Test.YtdeggdbaeeamiaaExt
namespace Go.Proofs.Ytdeggdbaeeamiaa
open Go.RowKit
set_option linter.unusedVariables false
set_option linter.unusedSimpArgs false

/-- The volume under way: some parts so far. -/
def VK (w : World) (c : Int) (i : Nat) (wx : World) : Prop := ∃ L v, L.length = i ∧ SL c L ∧ wx.heap[w.heap.size]? = some (.cells #[.int .i64 2, .int .i64 c, v] 24 (0, 0)) ∧ wx.ownsRow (w.heap.size + 1) 35 3 v L.length (sgs L) ∧ Below w.heap.size w wx
def SP.int : SP := ⟨fun v _ => ∃ x, v = .int .i64 x, fun _ _ _ _ h => h⟩
def SP.rng : SP := ⟨fun v _ => ∃ x, v = .int .i64 x ∧ 0 ≤ x ∧ x ≤ 4, fun _ _ _ _ h => h⟩
def SP.sg (i : Nat) (c : Int) : SP := ⟨fun v _ => ∃ x, v = .agg #[.int .i64 i, .int .i64 x, .int .i64 (4 * c)] ∧ 0 ≤ x ∧ x ≤ 4, fun _ _ _ _ h => h⟩
def SP.sgb (B i : Nat) (c : Int) : SP := ⟨fun v w => ∃ g x, v = .slice (some ⟨g, 0, none⟩) 1 1 ∧ B ≤ g ∧ w.heap[g]? = some (.cells #[.int .i64 i, .int .i64 x, .int .i64 (4 * c)] 35 (0, 0)) ∧ 0 ≤ x ∧ x ≤ 4, fun v w w' hb ⟨g, x, h1, h2, h3, h4⟩ => ⟨g, x, h1, h2, bk_step h3 hb, h4⟩⟩

set_option maxRecDepth 100000 in
set_option maxHeartbeats 2000000 in
theorem volumeStripes_walk (n chunk parts at_ : Int) (w : World) :
    Calls Try.prog 5 #[.int .i64 n, .int .i64 chunk, .int .i64 parts, .int .i64 at_] w fun e w' => e = .returned (.bool true) ∧ Below w.heap.size w w' := by
  have rp := fun w => round_w parts 4 w (by omega) (by omega)
  have rc := fun w => round_w chunk 4 w (by omega) (by omega)
  have ⟨p0, p1⟩ := cutI_range parts 4 (by omega)
  have ⟨q0, q1⟩ := cutI_range chunk 4 (by omega)
  obtain ⟨k, hk⟩ := Int.eq_ofNat_of_zero_le (show 0 ≤ 1 + cutI parts 4 by omega)
  obtain ⟨c, hc⟩ : ∃ c, 1 + cutI chunk 4 = c := ⟨_, rfl⟩
  generalize cutI parts 4 = pp at rp p0 p1 hk
  generalize cutI chunk 4 = cc at rc q0 q1 hc
  have wk := (w64 (x := 1 + pp) (by omega)).trans hk
  have wc := (w64 (x := 1 + cc) (by omega)).trans hc
  go_enter Try.func5, Try.ntmps5
  go_upto_region 2 with (first
    | (go_at_call 15; (with_reducible refine Calls.mono (rp _) ?_); rintro e w3 ⟨rfl, rfl⟩)
    | (go_at_call 15; (with_reducible refine Calls.mono (rc _) ?_); rintro e w3 ⟨rfl, rfl⟩))
  clear rp rc wk wc
  have k0 : 1 ≤ k := by omega
  have k1 : k ≤ 4 := by omega
  have c0 : 1 ≤ c := by omega
  have c1 : c ≤ 4 := by omega
  clear hk hc p0 p1 q0 q1
  go_wp2
  go_loopw [12] (fun s12 wx => ∃ i : Nat, i ≤ k ∧ s12 = .int .i64 i ∧ VK w c i wx) (fun s12 _ => k - (intOf s12).toNat)
  case atStart => exact ⟨0, by omega, rfl, [], .slice none 0 0, rfl, SL.nil c, heap_alloc_new _ _, World.ownsRow_nil _ _ _ _, (Below.refl _ _).alloc (Nat.le_refl _) _⟩
  case round =>
    obtain ⟨i, hi, rfl, L, v, hL, hSL, hV, hown, hB⟩ := hrel
    have HV := Lib.hid hV
    have Hown := Lib.hid hown
    have HB := Lib.hid hB
    have HSL := Lib.hid hSL
    by_cases hlt : i < k
    · have v2 := cells_at hV 2
      have lV := bk_lt hV
      simp only [List.getElem?_toArray, List.getElem?_cons_zero, List.getElem?_cons_succ] at v2
      have hmul := w64 (x := 4 * c) (by omega)
      have i63 : (i : Int) < 64 := by omega
      have i0' : (0 : Int) ≤ (i : Int) := by omega
      obtain ⟨i0, hi0, hz0, hz1, hz2⟩ := info_parts seg_info
      have rr := fun x w => round_w x 5 w (by omega) (by omega)
      have Hrg := Lib.hid (fun x => cutI_range x 5 (by omega))
      clear hV hown hB hSL
      go_upto_region 6 with fail
      obtain ⟨W, hWe⟩ : ∃ W : World, W = wr := ⟨_, rfl⟩
      subst hWe
      refine wp_region_sp 11 116 [SP.eq (.pointer (some ⟨w.heap.size, 2, none⟩)), SP.eq v, SP.eq (.int .i64 i), SP.eq (.int .i64 n), SP.eq (.int .i64 i), SP.int, SP.rng, SP.eq (.int .i64 c), SP.eq (.int .i64 (4 * c)), SP.sg i c, SP.sgb (w.heap.size + 1) i c] (by kernel_rfl) (by kernel_rfl) rfl ?_
      simp only [List.take_succ_cons, List.take_zero, List.drop_succ_cons, List.drop_zero]
      refine relWalk_cons (fun x hC hd K hK => ?_) (fun v0 => ?_)
      · go_simp
        exact hK _ _ hC (Below.refl _ _) rfl
      simp only [Act.put, List.setIfInBounds_toArray, List.set_cons_zero, List.set_cons_succ]
      refine relWalk_cons (fun x hC hd K hK => ?_) (fun v1 => ?_)
      · obtain rfl : v0 = _ := hd 0 (by kernel_rfl)
        have w2 := (hC.cell (p := ⟨w.heap.size, 2, none⟩) lV).trans v2
        go_simp
        exact hK _ _ hC (Below.refl _ _) rfl
      simp only [Act.put, List.setIfInBounds_toArray, List.set_cons_zero, List.set_cons_succ]
      refine relWalk_cons (fun x hC hd K hK => ?_) (fun v2 => ?_)
      · go_simp
        exact hK _ _ hC (Below.refl _ _) rfl
      simp only [Act.put, List.setIfInBounds_toArray, List.set_cons_zero, List.set_cons_succ]
      refine relWalk_cons (fun x hC hd K hK => ?_) (fun v3 => ?_)
      · go_simp
        exact hK _ _ hC (Below.refl _ _) rfl
      simp only [Act.put, List.setIfInBounds_toArray, List.set_cons_zero, List.set_cons_succ]
      refine relWalk_cons (fun x hC hd K hK => ?_) (fun v4 => ?_)
      · go_simp
        exact hK _ _ hC (Below.refl _ _) rfl
      simp only [Act.put, List.setIfInBounds_toArray, List.set_cons_zero, List.set_cons_succ]
      refine relWalk_cons (fun x hC hd K hK => ?_) (fun v5 => ?_)
      · obtain rfl : v3 = _ := hd 3 (by kernel_rfl)
        obtain rfl : v4 = _ := hd 4 (by kernel_rfl)
        go_simp
        exact hK _ _ hC (Below.refl _ _) ⟨_, rfl⟩
      simp only [Act.put, List.setIfInBounds_toArray, List.set_cons_zero, List.set_cons_succ]
      refine relWalk_cons (fun x hC hd K hK => ?_) (fun v6 => ?_)
      · obtain ⟨y, rfl⟩ := hd 5 (by kernel_rfl)
        go_simp
        go_at_call 15
        refine (rr y x).mono ?_
        rintro e w1 ⟨rfl, rfl⟩
        exact hK _ _ hC (Below.refl _ _) ⟨_, rfl, (Hrg.out _).1, by have := (Hrg.out y).2; omega⟩
      simp only [Act.put, List.setIfInBounds_toArray, List.set_cons_zero, List.set_cons_succ]
      refine relWalk_cons (fun x hC hd K hK => ?_) (fun v7 => ?_)
      · go_simp
        exact hK _ _ hC (Below.refl _ _) rfl
      simp only [Act.put, List.setIfInBounds_toArray, List.set_cons_zero, List.set_cons_succ]
      refine relWalk_cons (fun x hC hd K hK => ?_) (fun v8 => ?_)
      · obtain rfl : v7 = _ := hd 7 (by kernel_rfl)
        go_simp
        exact hK _ _ hC (Below.refl _ _) rfl
      simp only [Act.put, List.setIfInBounds_toArray, List.set_cons_zero, List.set_cons_succ]
      refine relWalk_cons (fun x hC hd K hK => ?_) (fun v9 => ?_)
      · obtain rfl : v2 = _ := hd 2 (by kernel_rfl)
        obtain ⟨y, rfl, y0, y1⟩ := hd 6 (by kernel_rfl)
        obtain rfl : v8 = _ := hd 8 (by kernel_rfl)
        go_simp
        exact hK _ _ hC (Below.refl _ _) ⟨y, rfl, y0, y1⟩
      simp only [Act.put, List.setIfInBounds_toArray, List.set_cons_zero, List.set_cons_succ]
      refine relWalk_cons (fun x hC hd K hK => ?_) (fun v10 => ?_)
      · obtain ⟨y, rfl, y0, y1⟩ := hd 9 (by kernel_rfl)
        go_simp
        exact hK _ _ (bl_alloc hC _) ((Below.refl _ _).alloc (Nat.le_refl _) _) ⟨_, y, rfl, by have := hC.size; omega, heap_alloc_new _ _, y0, y1⟩
      simp only [Act.put, List.setIfInBounds_toArray, List.set_cons_zero, List.set_cons_succ]
      refine relWalk_nil ?_
      intro x hC hG
      obtain rfl : v1 = _ := hG 1 (by omega)
      obtain ⟨g, y, e10, hg, hgb, y0, y1⟩ := hG 10 (by omega)
      obtain rfl : v10 = _ := e10
      clear hG
      have HV2 := Lib.hid (bk_step HV.out hC)
      have Hown2 := Lib.hid (own_step Hown.out hC)
      have HB2 := Lib.hid (bl_step HB.out hC)
      have lVx := bk_lt HV2.out
      have hsz : w.heap.size + 1 ≤ x.heap.size := lVx
      subst hL
      clear HV Hown HB rr Hrg hC v2
      go_wp2_with (refine wpList_append_lies _ rfl (.tmp 31) (.tmp 40) 22 rfl (w.heap.size + 1) 35 i0 _ 3 24 Try.underlying22 hi0 hz0 hz1 hz2 rfl (by omega) _ L.length (sgs L) rfl Hown2.out ⟨g, 0, none⟩ 1 1 [.int .i64 L.length, .int .i64 y, .int .i64 (4 * c)] rfl rfl (World.news_of_block hgb) (by simp [Value.oneCell']) (by omega) (by unfold maxLen; omega) (by omega) hsz _ rfl ?_; intro gg cap4 w4 hown4 hg4 hat4 hlt4; have hV4 := (hg4.block w.heap.size lVx (fun e => by have := (Hown2.out.lt w.heap.size e.symm).1; omega)).trans HV2.out; have t2 := cells_at hV4 2; have f2 := free_at hV4 2; have lV4 := bk_lt hV4)
      go_roundw
      case rel =>
        have hown5 := own_sg hown4
        refine ⟨L.length + 1, by omega, by go_num, L ++ [((L.length : Int), y, 4 * c)], .slice (some ⟨gg, 0, none⟩) (L.length + 1) cap4, by simp, HSL.out.snoc y0 y1, by simpa using set_same (i := 2) hV4 _, ownsRow_setCell_below hown5 (by simp) _, (HB2.out.grown hg4 HB2.out.size (fun q hq => by have := (Hown2.out.lt q hq).1; omega)).setCell (by simp) _⟩
      case measure => simp [intOf]; omega
    · have hik : i = k := by omega
      obtain ⟨g, cap, rfl, _, _⟩ := hown.form (by omega)
      have hcap := own_cap hown
      have hP := PA.of_own hown
      have HVS := Lib.hid (show VS w w.heap.size 2 c (some ⟨g, 0, none⟩) L cap wr from ⟨hV, hP, hB⟩)
      have e1 : (L.length : Int) = (k : Int) := by omega
      have e2 : L.length = k := by omega
      clear HV Hown HB hV hown hB hP
      obtain ⟨v0, v1, v2⟩ := HVS.out.cell
      have ra := fun w => round_w at_ (3 * (k : Int) + 1) w (by omega) (by omega)
      have ⟨f0, f1⟩ := cutI_range at_ (3 * (k : Int) + 1) (by omega)
      generalize cutI at_ (3 * (k : Int) + 1) = F at ra f0 f1
      obtain ⟨st1, st2⟩ := stripes hSL (by omega) (by omega) c0 c1 (F := F) f0 (by omega)
      have hmap := fun w' (hp : PA w' (some ⟨g, 0, none⟩) L) => map_w 2 c (some ⟨g, 0, none⟩) L cap (F * c) ((L.length : Int) * c) 0 w' hp (by unfold maxLen; omega) hcap
      have hsz := fun w' (hp : PA w' (some ⟨g, 0, none⟩) L) => Size_w 2 c (some ⟨g, 0, none⟩) L cap w' hp (by unfold maxLen; omega) hcap
      rw [hSL.size (by omega) (by omega) c0 c1] at hsz
      generalize mapP 2 c L (F * c) ((L.length : Int) * c) 0 = l at hmap st1 st2
      obtain ⟨m1, m2⟩ := mul4 (k := k) c1 c0 k1
      have m3 : F * c ≤ 12 * c := Int.mul_le_mul_of_nonneg_right (by omega) (by omega)
      have m4 : 0 ≤ F * c := Int.mul_nonneg f0 (by omega)
      have m5 : (k : Int) * c ≤ 4 * c := Int.mul_le_mul_of_nonneg_right (by omega) (by omega)
      have m6 : 0 ≤ (k : Int) * c := Int.mul_nonneg (by omega) (by omega)
      rw [e1] at hmap hsz st2
      rw [e2] at st1 st2
      have w1 := w64 (x := 3 * (k : Int)) (by omega)
      have w2 := w64 (x := 3 * (k : Int) + 1) (by omega)
      have w3 := w64 (x := F * c) (by omega)
      have w4 := w64 (x := (k : Int) * c) (by omega)
      have w5 := w64 (x := 4 * c) (by omega)
      have w6 := w64 (x := 4 * c * (k : Int)) (by omega)
      have S2 := Lib.hid st2
      clear st2 hSL HSL m1 m2 m3 m4 m5 m6 e1 hlt
      have k0' : 1 ≤ L.length := by omega
      have E2 := Lib.hid e2
      clear e2 hL hi
      subst hik
      subst st1
      go_upto_region 9 with (first
        | (go_at_call 15; (with_reducible refine Calls.mono (ra _) ?_); rintro e w3 ⟨rfl, rfl⟩)
        | (go_at_call 13; (with_reducible refine Calls.mono (hmap _ HVS.out.pa) ?_); rintro e wm ⟨v, rfl, hP, hb4⟩; have HV4 := Lib.hid (HVS.out.step hb4)))
      clear v0 v1 v2 HVS hmap ra w1 w2 w3 w4
      obtain ⟨v0, v1, v2⟩ := HV4.out.cell
      obtain ⟨A4, cap4, rfl, hlm, hPR⟩ := hP.parts
      have HPR := Lib.hid hPR
      clear hPR hP
      go_upto_region 11 with (go_at_call 11; (with_reducible refine Calls.mono (hsz _ HV4.out.pa) ?_); rintro e w2 ⟨rfl, hb2⟩; have HPR2 := Lib.hid (HPR.out.step hb2); have HB2 := Lib.hid (bl_step HV4.out.below hb2); clear HV4 HPR)
      clear hsz w5 w6 v0 v1 v2
      obtain ⟨W2, hW2⟩ : ∃ W : World, W = w2 := ⟨_, rfl⟩
      subst hW2
      go_wp2
      go_loopw [16] (fun s16 wx => ∃ i : Nat, i ≤ l.length ∧ s16 = .int .i64 i ∧ (∃ cs : Array Value, wx.heap[W2.heap.size]? = some (.cells cs 36 (0, 0)) ∧ cs.size = 4 ∧ ∀ d : Nat, d < 4 → cs[d]? = some (.bool (seenB F l.length i d))) ∧ Below W2.heap.size W2 wx) (fun s16 _ => l.length - (intOf s16).toNat)
      case atStart => exact ⟨0, by omega, rfl, ⟨_, heap_alloc_new _ _, rfl, fun d hd => by
        have : d = 0 ∨ d = 1 ∨ d = 2 ∨ d = 3 := by omega
        rcases this with rfl | rfl | rfl | rfl <;> rfl⟩, (Below.refl _ _).alloc (Nat.le_refl _) _⟩
      case round =>
        obtain ⟨i, hi, rfl, ⟨cs, hS, hcs, hd⟩, hW⟩ := hrel
        by_cases hlt : i < l.length
        · obtain ⟨b, d, s', c', f, hA, lb, he, q0, q1, q2, q3⟩ := (HPR2.out.step hW).at_ hlt
          subst hA
          obtain ⟨s2, o2, he2⟩ := S2.out i hlt
          rw [he] at he2
          simp only [Option.some.injEq, Prod.mk.injEq] at he2
          obtain ⟨rfl, rfl, rfl, rfl⟩ := he2
          have n0 := Int.emod_nonneg (F + i) (show (l.length : Int) ≠ 0 by omega)
          have n1 := Int.emod_lt_of_pos (F + i) (show (0 : Int) < l.length by omega)
          have hnew := seen_new (F := F) k1 hlt
          obtain ⟨m, hm⟩ := Int.eq_ofNat_of_zero_le n0
          have hcell := cells_at hS m
          rw [hd m (by omega)] at hcell
          have Hset := Lib.hid (set_same (i := m) hS (.bool true))
          have hfr := free_at hS m
          rw [hm] at q0 hnew n1
          rw [hnew] at hcell
          have Hd := Lib.hid hd
          have Hm := Lib.hid hm
          have HW := Lib.hid hW
          have z0 : (0 : Int) ≤ (i : Int) := by omega
          have z1 : (i : Int) < (l.length : Int) := by omega
          have z2 : (m : Int) < 4 := by omega
          have z3 : (0 : Int) ≤ (m : Int) := by omega
          clear hm hd hnew n0 hS hW he
          go_wp2
          go_roundw
          case rel => 
            refine ⟨i + 1, by omega, by go_num, ⟨_, Hset.out, by simpa using hcs, fun d hd => ?_⟩, HW.out.setCell (Nat.le_refl _) _⟩
            rw [seen_succ, Hm.out, Array.getElem?_setIfInBounds]
            by_cases hdm : m = d
            · subst hdm
              rw [if_pos rfl, if_pos (by omega)]
              simp
            · rw [if_neg hdm, Hd.out d hd]
              have : ((m : Int) == (d : Int)) = false := by simp; omega
              simp [this]
          case measure => simp [intOf]; omega
        · have HW := Lib.hid hW
          clear hW hS
          go_wp2_with (go_at_call 14; (with_reducible refine Calls.mono (awake_w _) ?_); rintro e w9 ⟨rfl, hb9⟩)
          go_ret
          exact ⟨rfl, bl_step HB2.out (bl_step HW.out hb9)⟩

end Go.Proofs.Ytdeggdbaeeamiaa
