/-
  The law VolumeParts: the walk.
-/
import Derived.Test.YtdeggdbaeeamiaaVolJ
import Derived.Test.YtdeggdbaeeamiaaExt
namespace Go.Proofs.Ytdeggdbaeeamiaa
open Go.RowKit
set_option linter.unusedVariables false
set_option linter.unusedSimpArgs false

theorem sgs_append : ∀ (a b : List Seg), sgs (a ++ b) = sgs a ++ sgs b
  | [], b => rfl
  | (x, y, z) :: a, b => by simp [sgs, sgs_append a b]
/-- What the law needs of the pieces of a request. -/
def PB (l : List Pc) : Prop := l ≠ [] ∧ l.length ≤ 128 ∧ (∀ p ∈ l, 0 ≤ p.2.1 ∧ p.2.1 ≤ 1000 ∧ p.2.2.1 ≤ 128 ∧ 0 ≤ p.2.2.2 ∧ p.2.2.2 ≤ 128) ∧ ∀ f, 0 < (secs f l).length
theorem PB.of {kd ch : Int} {L : List Seg} {s c : Int} (hok : okB kd ch L s c = true) : PB (mapP kd ch L s c 0) := by
  obtain ⟨hs, hz, h1, h2, h3, h4, h5⟩ := ok_sound hok
  have hL := (sound_parts hs).1
  refine ⟨map_some hok (fun _ => ⟨by omega, by omega⟩), ?_, fun p hp => piece_bound hok hp, fun f => ?_⟩
  · unfold mapP
    rw [hok, if_pos rfl]
    by_cases hk : kd = 3
    · rw [if_pos hk, mirP_zero s c hL]; simp
    · rw [if_neg hk]
      have := runP_len kd ch L s c c.toNat 0
      omega
  · unfold mapP
    rw [hok, if_pos rfl]
    by_cases hk : kd = 3
    · rw [if_pos hk, mirP_zero s c hL]
      simp only [secs, List.append_nil, pcSec_len]
      omega
    · rw [if_neg hk, secs_runP hs hk h2 (by omega) _ _ (by omega) (by omega) (by omega)]
      simp [secR]; omega
/-- Three lists of pieces: two requests side by side, and the joined one. -/
def PT (a : Int) (X Y Z : List Pc) : Prop := PB X ∧ PB Y ∧ PB Z ∧ secs 0 X ++ secs a Y = secs 0 Z ∧ Z.length ≤ X.length + Y.length
theorem PT.of {kd ch : Int} {L : List Seg} {s a b : Int} (h0 : 0 ≤ s) (h1 : 1 ≤ a) (h2 : 1 ≤ b) (h3 : s + a + b ≤ szB kd ch L) : PT a (mapP kd ch L s a 0) (mapP kd ch L (s + a) b 0) (mapP kd ch L s (a + b) 0) := by
  obtain ⟨e1, e2⟩ := parts ⟨h0, h1, h2, h3⟩
  exact ⟨PB.of (ok_mk h1 h0 (by omega) (by omega)), PB.of (ok_mk h2 (by omega) (by omega) (by omega)), PB.of (ok_mk (by omega) h0 (by omega) (by omega)), e1, e2⟩

set_option maxRecDepth 100000 in
set_option maxHeartbeats 2000000 in
theorem volumeParts_walk (n sector one two : Int) (w : World) :
    Calls Try.prog 6 #[.int .i64 n, .int .i64 sector, .int .i64 one, .int .i64 two] w fun e w' => e = .returned (.bool true) ∧ Below w.heap.size w w' := by
  go_enter Try.func6, Try.ntmps6
  go_upto_region 1 with fail
  go_cut [9] (fun s9 wx => ∃ V kd ch A L cap, s9 = .pointer (some ⟨V, 0, none⟩) ∧ L.length ≤ cap ∧ L.length ≤ maxLen ∧ VS w V kd ch A L cap wx)
  case first =>
    go_wp2_with (go_at_call 10; (with_reducible refine Calls.mono (made_w _ _) ?_); rintro e w1 ⟨kd, ch, A, L, cap, rfl, hA, hc, hm, hb1⟩)
    go_meet
    case rel => exact ⟨_, kd, ch, A, L, cap, rfl, hc, by have := (made_len hm).2; unfold maxLen; simp only at this; omega, heap_alloc_new _ _, hA.alloc _, bl_alloc hb1 _⟩
  case rest =>
    obtain ⟨V, kd, ch, A, L, cap, rfl, hc, hl, hV⟩ := hcut
    have crs := fun w' (hp : PA w' A L) => rSize_w kd ch A L cap w' hp hl
    have ⟨z0, z1⟩ := szB_range kd ch L
    have hmap := fun s c w' (hp : PA w' A L) => map_w kd ch A L cap s c 0 w' hp hl hc
    have HT := Lib.hid (fun s a b => PT.of (kd := kd) (ch := ch) (L := L) (s := s) (a := a) (b := b))
    generalize szB kd ch L = size at crs z0 z1 HT
    have HV := Lib.hid hV
    obtain ⟨v0, v1, v2⟩ := hV.cell
    clear hV
    go_upto_region 3 with (go_at_call 12; (with_reducible refine Calls.mono (crs _ HV.out.pa) ?_); rintro e w2 ⟨rfl, hb2⟩; have HV2 := Lib.hid (HV.out.step hb2); clear v0 v1 v2; obtain ⟨v0, v1, v2⟩ := HV2.out.cell)
    clear HV
    have HV := HV2
    clear HV2
    by_cases hz : size < 2
    · have HB := Lib.hid HV.out.below
      go_wp2_with (go_at_call 14; (with_reducible refine Calls.mono (awake_w _) ?_); rintro e w9 ⟨rfl, hb9⟩)
      go_ret
      exact ⟨rfl, bl_step HB.out hb9⟩
    · have r1 := fun w => round_w sector (size - 1) w (by omega) (by omega)
      have ⟨s0, s1⟩ := cutI_range sector (size - 1) (by omega)
      generalize cutI sector (size - 1) = s at r1 s0 s1
      have r2 := fun w => round_w one (size - s - 1) w (by omega) (by omega)
      have ⟨a0, a1⟩ := cutI_range one (size - s - 1) (by omega)
      generalize cutI one (size - s - 1) = a at r2 a0 a1
      have r3 := fun w => round_w two (size - s - (1 + a)) w (by omega) (by omega)
      have ⟨b0, b1⟩ := cutI_range two (size - s - (1 + a)) (by omega)
      generalize cutI two (size - s - (1 + a)) = b at r3 b0 b1
      have hT := HT.out s (1 + a) (1 + b) s0 (by omega) (by omega) (by omega)
      have hmX := hmap s (1 + a)
      have hmY := hmap (s + (1 + a)) (1 + b)
      have hmZ := hmap s (1 + a + (1 + b))
      generalize mapP kd ch L s (1 + a) 0 = X at hT hmX
      generalize mapP kd ch L (s + (1 + a)) (1 + b) 0 = Y at hT hmY
      generalize mapP kd ch L s (1 + a + (1 + b)) 0 = Z at hT hmZ
      have HTT := Lib.hid hT
      clear HT hT hmap
      go_upto_region 6 with (go_at_call 15; (with_reducible refine Calls.mono (r1 _) ?_); rintro e w3 ⟨rfl, rfl⟩)
      go_upto_region 7 with (go_at_call 15; (with_reducible refine Calls.mono (r2 _) ?_); rintro e w3 ⟨rfl, rfl⟩)
      go_upto_region 8 with (go_at_call 15; (with_reducible refine Calls.mono (r3 _) ?_); rintro e w3 ⟨rfl, rfl⟩)
      clear r1 r2 r3 v0 v1 v2
      go_cut [14, 15, 16] (fun s14 s15 s16 wx => PcA wx s14 X ∧ PcA wx s15 Y ∧ PcA wx s16 Z ∧ Below w.heap.size w wx)
      case first =>
        have w1 := w64 (x := s + (1 + a)) (by omega)
        have w2 := w64 (x := 1 + a + (1 + b)) (by omega)
        refine wp_region_sp 16 86 [SP.eq (volV kd ch A L.length cap), SP.eq (.int .i64 s), SP.eq (.int .i64 (1 + a)), SP.pc X, SP.eq (volV kd ch A L.length cap), SP.eq (.int .i64 s), SP.eq (.int .i64 (1 + a)), SP.eq (.int .i64 (s + (1 + a))), SP.eq (.int .i64 (1 + b)), SP.pc Y, SP.eq (volV kd ch A L.length cap), SP.eq (.int .i64 s), SP.eq (.int .i64 (1 + a)), SP.eq (.int .i64 (1 + b)), SP.eq (.int .i64 (1 + a + (1 + b))), SP.pc Z] (by kernel_rfl) (by kernel_rfl) rfl ?_
        simp only [List.take_succ_cons, List.take_zero, List.drop_succ_cons, List.drop_zero]
        refine relWalk_cons (fun x hC hd K hK => ?_) (fun v0 => ?_)
        · obtain ⟨u0, u1, u2⟩ := (HV.out.step hC).cell
          go_simp
          exact hK _ _ hC (Below.refl _ _) rfl
        simp only [Act.put, List.setIfInBounds_toArray, List.set_cons_zero, List.set_cons_succ]
        refine relWalk_cons (fun x hC hd K hK => ?_) (fun v1 => ?_)
        · go_simp
          exact hK _ _ hC (Below.refl _ _) rfl
        simp only [Act.put, List.setIfInBounds_toArray, List.set_cons_zero, List.set_cons_succ]
        refine relWalk_cons (fun x hC hd K hK => ?_) (fun v2 => ?_)
        · go_simp
          exact hK _ _ hC (Below.refl _ _) rfl
        simp only [Act.put, List.setIfInBounds_toArray, List.set_cons_zero, List.set_cons_succ]
        refine relWalk_cons (fun x hC hd K hK => ?_) (fun v3 => ?_)
        · obtain rfl : v0 = _ := hd 0 (by kernel_rfl)
          obtain rfl : v1 = _ := hd 1 (by kernel_rfl)
          obtain rfl : v2 = _ := hd 2 (by kernel_rfl)
          go_simp
          go_at_call 13
          refine (hmX x (HV.out.step hC).pa).mono ?_
          rintro e w1 ⟨v, rfl, hP, hb⟩
          exact hK _ _ (bl_step hC hb) hb hP
        simp only [Act.put, List.setIfInBounds_toArray, List.set_cons_zero, List.set_cons_succ]
        refine relWalk_cons (fun x hC hd K hK => ?_) (fun v4 => ?_)
        · obtain ⟨u0, u1, u2⟩ := (HV.out.step hC).cell
          go_simp
          exact hK _ _ hC (Below.refl _ _) rfl
        simp only [Act.put, List.setIfInBounds_toArray, List.set_cons_zero, List.set_cons_succ]
        refine relWalk_cons (fun x hC hd K hK => ?_) (fun v5 => ?_)
        · go_simp
          exact hK _ _ hC (Below.refl _ _) rfl
        simp only [Act.put, List.setIfInBounds_toArray, List.set_cons_zero, List.set_cons_succ]
        refine relWalk_cons (fun x hC hd K hK => ?_) (fun v6 => ?_)
        · go_simp
          exact hK _ _ hC (Below.refl _ _) rfl
        simp only [Act.put, List.setIfInBounds_toArray, List.set_cons_zero, List.set_cons_succ]
        refine relWalk_cons (fun x hC hd K hK => ?_) (fun v7 => ?_)
        · obtain rfl : v5 = _ := hd 5 (by kernel_rfl)
          obtain rfl : v6 = _ := hd 6 (by kernel_rfl)
          go_simp
          exact hK _ _ hC (Below.refl _ _) rfl
        simp only [Act.put, List.setIfInBounds_toArray, List.set_cons_zero, List.set_cons_succ]
        refine relWalk_cons (fun x hC hd K hK => ?_) (fun v8 => ?_)
        · go_simp
          exact hK _ _ hC (Below.refl _ _) rfl
        simp only [Act.put, List.setIfInBounds_toArray, List.set_cons_zero, List.set_cons_succ]
        refine relWalk_cons (fun x hC hd K hK => ?_) (fun v9 => ?_)
        · obtain rfl : v4 = _ := hd 4 (by kernel_rfl)
          obtain rfl : v7 = _ := hd 7 (by kernel_rfl)
          obtain rfl : v8 = _ := hd 8 (by kernel_rfl)
          go_simp
          go_at_call 13
          refine (hmY x (HV.out.step hC).pa).mono ?_
          rintro e w1 ⟨v, rfl, hP, hb⟩
          exact hK _ _ (bl_step hC hb) hb hP
        simp only [Act.put, List.setIfInBounds_toArray, List.set_cons_zero, List.set_cons_succ]
        refine relWalk_cons (fun x hC hd K hK => ?_) (fun v10 => ?_)
        · obtain ⟨u0, u1, u2⟩ := (HV.out.step hC).cell
          go_simp
          exact hK _ _ hC (Below.refl _ _) rfl
        simp only [Act.put, List.setIfInBounds_toArray, List.set_cons_zero, List.set_cons_succ]
        refine relWalk_cons (fun x hC hd K hK => ?_) (fun v11 => ?_)
        · go_simp
          exact hK _ _ hC (Below.refl _ _) rfl
        simp only [Act.put, List.setIfInBounds_toArray, List.set_cons_zero, List.set_cons_succ]
        refine relWalk_cons (fun x hC hd K hK => ?_) (fun v12 => ?_)
        · go_simp
          exact hK _ _ hC (Below.refl _ _) rfl
        simp only [Act.put, List.setIfInBounds_toArray, List.set_cons_zero, List.set_cons_succ]
        refine relWalk_cons (fun x hC hd K hK => ?_) (fun v13 => ?_)
        · go_simp
          exact hK _ _ hC (Below.refl _ _) rfl
        simp only [Act.put, List.setIfInBounds_toArray, List.set_cons_zero, List.set_cons_succ]
        refine relWalk_cons (fun x hC hd K hK => ?_) (fun v14 => ?_)
        · obtain rfl : v12 = _ := hd 12 (by kernel_rfl)
          obtain rfl : v13 = _ := hd 13 (by kernel_rfl)
          go_simp
          exact hK _ _ hC (Below.refl _ _) rfl
        simp only [Act.put, List.setIfInBounds_toArray, List.set_cons_zero, List.set_cons_succ]
        refine relWalk_cons (fun x hC hd K hK => ?_) (fun v15 => ?_)
        · obtain rfl : v10 = _ := hd 10 (by kernel_rfl)
          obtain rfl : v11 = _ := hd 11 (by kernel_rfl)
          obtain rfl : v14 = _ := hd 14 (by kernel_rfl)
          go_simp
          go_at_call 13
          refine (hmZ x (HV.out.step hC).pa).mono ?_
          rintro e w1 ⟨v, rfl, hP, hb⟩
          exact hK _ _ (bl_step hC hb) hb hP
        simp only [Act.put, List.setIfInBounds_toArray, List.set_cons_zero, List.set_cons_succ]
        refine relWalk_nil ?_
        intro x' hC hG
        have g1 : PcA x' v3 X := hG 3 (by omega)
        have g2 : PcA x' v9 Y := hG 9 (by omega)
        have g3 : PcA x' v15 Z := hG 15 (by omega)
        have HG := Lib.hid (And.intro g1 (And.intro g2 g3))
        clear hG g1 g2 g3
        go_wp2
        go_meet
        case rel => exact ⟨HG.out.1, HG.out.2.1, HG.out.2.2, bl_step HV.out.below hC⟩
      case rest =>
        clear HV hmX hmY hmZ crs
        obtain ⟨h1, h2, h3, hW⟩ := hcut
        have H1 := Lib.hid h1
        have H2 := Lib.hid h2
        have H3 := Lib.hid h3
        have HW := Lib.hid hW
        obtain ⟨A1, c1, rfl, m1, _⟩ := h1.parts
        obtain ⟨A2, c2, rfl, m2, _⟩ := h2.parts
        obtain ⟨A3, c3, rfl, m3, _⟩ := h3.parts
        clear h1 h2 h3 hW
        obtain ⟨pX, pY, pZ, esec, elen⟩ := HTT.out
        obtain ⟨xn, xl, xp, xs⟩ := pX
        obtain ⟨yn, yl, yp, ys⟩ := pY
        obtain ⟨zn, zl, zp, zs⟩ := pZ
        have xlen := secs_len (from_ := 0) (fun p hp => (xp p hp).2.2.1)
        have ylen := secs_len (from_ := 1 + a) (fun p hp => (yp p hp).2.2.1)
        have zlen := secs_len (from_ := 0) (fun p hp => (zp p hp).2.2.1)
        have c1 := fun w' h => sectors_w (.slice A1 X.length c1) X 0 w' h xl (by omega) xp
        have c2 := fun w' h => sectors_w (.slice A2 Y.length c2) Y (1 + a) w' h yl (by omega) yp
        have c3 := fun w' h => sectors_w (.slice A3 Z.length c3) Z 0 w' h zl (by omega) zp
        have y0 := ys (1 + a)
        have z0' : 0 < Z.length := List.length_pos_iff.2 zn
        have HE := Lib.hid esec
        have w1 := w64 (x := (X.length : Int) + (Y.length : Int)) (by omega)
        obtain ⟨i0, hi, hz0, hz1, hz2⟩ := info_parts place_info
        generalize secs 0 X = SX at HE c1 xlen
        generalize secs (1 + a) Y = SY at HE c2 ylen y0
        generalize secs 0 Z = SZ at HE c3 zlen
        have n1 : (Z.length : Int) ≤ (X.length : Int) + (Y.length : Int) := by omega
        have n2 : (0 : Int) < (Z.length : Int) := by omega
        clear xp yp zp xn yn zn xs ys zs esec HTT
        go_wp2_with (first
          | (go_at_call 17; (with_reducible refine Calls.mono (c1 _ H1.out) ?_); rintro e w1 ⟨u1, rfl, ho1, hb1⟩; have O1 := Lib.hid ho1; have B1 := Lib.hid hb1; have H2b := Lib.hid (H2.out.step hb1); clear ho1 hb1 H1 c1)
          | (go_at_call 17; (with_reducible refine Calls.mono (c2 _ H2b.out) ?_); rintro e w2 ⟨u2, rfl, ho2, hb2⟩; obtain ⟨g2, cap2, rfl, _, _⟩ := ho2.form y0; have O2 := Lib.hid ho2; have O1b := Lib.hid (own_step O1.out hb2); have B2 := Lib.hid (bl_step B1.out hb2); clear ho2 hb2 H2 H2b c2 O1 B1)
          | (at_builtin; go_loud (refine wpList_append_lies _ rfl (.tmp 60) (.tmp 63) 39 rfl wc.heap.size 59 i0 _ 3 24 Try.underlying39 hi hz0 hz1 hz2 rfl (by omega) _ SX.length (sgs SX) rfl O1b.out ⟨g2, 0, none⟩ SY.length cap2 (sgs SY) rfl (sgs_len _) (PA.news (PA.of_own O2.out)) (sgs_one _) y0 (by unfold maxLen; omega) (by omega) B2.out.size _ rfl ?_); intro gg cap4 w4 hown4 hg4 hat4 hlt4; have O4 := Lib.hid hown4; have B4 := Lib.hid (B2.out.grown hg4 B2.out.size (fun q hq => (O1b.out.lt q hq).1)); have H3b := Lib.hid (H3.out.step B4.out); clear hown4 hg4 hat4 O1b O2 B2 H3)
          | (go_at_call 17; (with_reducible refine Calls.mono (c3 _ H3b.out) ?_); rintro e w5 ⟨u3, rfl, ho3, hb3⟩; have O3 := Lib.hid (ScA.of_own ho3 (by unfold maxLen; omega)); have O5 := Lib.hid (own_step O4.out hb3); have B5 := Lib.hid (bl_step B4.out hb3); clear ho3 hb3 O4 B4 H3b c3)
          | (go_at_call 16; (with_reducible refine Calls.mono (same_w _ _ SZ _ (by have hL := congrArg List.length HE.out; rw [List.length_append] at hL; have := O5.out; rw [← sgs_append, HE.out, hL] at this; rw [hL]; exact ScA.of_own this (by unfold maxLen; omega)) O3.out) ?_); rintro e w6 ⟨rfl, hb6⟩)
          | (go_at_call 14; (with_reducible refine Calls.mono (awake_w _) ?_); rintro e w9 ⟨rfl, hb9⟩))
        go_ret
        exact ⟨rfl, bl_step HW.out (bl_step (bl_step B5.out hb6) hb9)⟩

end Go.Proofs.Ytdeggdbaeeamiaa
