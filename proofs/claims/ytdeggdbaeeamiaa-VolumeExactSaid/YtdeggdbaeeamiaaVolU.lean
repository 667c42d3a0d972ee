/-
  The law VolumeSmall: the walk.
-/
import Derived.Test.YtdeggdbaeeamiaaVolQ
import Derived.Test.YtdeggdbaeeamiaaVolR
import Derived.Test.YtdeggdbaeeamiaaVolT
import Derived.Test.YtdeggdbaeeamiaaRelG
namespace Go.Proofs.Ytdeggdbaeeamiaa
open Go.RowKit
set_option linter.unusedVariables false
set_option linter.unusedSimpArgs false

theorem row_za {w : World} {a : Option Addr} {len cap : Nat} {zs : List Int} (h : IsRow .i64 w a len cap zs) : ∃ zs' : List Int, zs'.length = len ∧ len ≤ maxLen ∧ ZA w a zs' := by
  rcases h with ⟨_, rfl, _⟩ | ⟨x, rfl, h1, h2, h3, h4, h5⟩
  · exact ⟨[], rfl, by simp, .inl rfl⟩
  · refine ⟨zs.take len, by rw [List.length_take]; omega, by omega, ?_⟩
    by_cases h0 : len = 0
    · subst h0; exact .inl (by simp)
    · obtain ⟨c, o, sp⟩ := x
      have hlt : ∀ i, i < len → (zs.take len)[i]? = some (zs.getD i 0) := fun i hi => by
        rw [List.getElem?_take, if_pos hi]
        simp [List.getD, List.getElem?_eq_getElem (show i < zs.length by omega)]
      have hc0 := h4 0 (by omega)
      cases sp with
      | none =>
        refine .inr ⟨c, o, rfl, ?_, fun i z hi => ?_⟩
        · rcases Nat.lt_or_ge c w.heap.size with hlt' | hge
          · exact hlt'
          · simp [World.cell?, Addr.add, Array.getElem?_eq_none hge] at hc0
        · have hil : i < len := by
            have := (List.getElem?_eq_some_iff.1 hi).1
            rw [List.length_take] at this; omega
          have hci := h4 i (by omega)
          rw [hlt i hil] at hi
          injection hi with hi
          rw [← hi, ← hci]
          have hadd : (⟨c, o, none⟩ : Addr).add i = ⟨c, o + i, none⟩ := by unfold Addr.add; split <;> simp_all
          rw [hadd]
      | some s =>
        exfalso
        have hc1 := h4 0 (by omega)
        simp [World.cell?, Addr.add] at hc1
        split at hc1 <;> cases hc1
def SP.zs (l : List Int) : SP := ⟨fun v w => ZAs w v l, fun _ _ _ hb h => h.step hb⟩
def kbF : Nat → Option Bool
  | 7 => some true
  | 14 => some true
  | 27 => some true
  | 32 => some true
  | 37 => some true
  | 44 => some true
  | _ => none

set_option maxRecDepth 100000 in
set_option maxHeartbeats 4000000 in
theorem volumeSmall_walk (n sector count copy drive : Int) (a5 : Option Addr) (len5 cap5 : Nat) (z5 : List Int) (w : World) (hrow : IsRow .i64 w a5 len5 cap5 z5) :
    Calls Try.prog 9 #[.int .i64 n, .int .i64 sector, .int .i64 count, .int .i64 copy, .int .i64 drive, .slice a5 len5 cap5] w fun e w' => e = .returned (.bool true) ∧ Below w.heap.size w w' := by
  obtain ⟨ys, hy1, hy2, hy3⟩ := row_za hrow
  unfold maxLen at hy2
  have HY := Lib.hid hy3
  clear hy3 hrow
  go_enter Try.func9, Try.ntmps9
  go_upto_region 1 with fail
  go_cut [13] (fun s13 wx => ∃ V kd ch A L cap, s13 = .pointer (some ⟨V, 0, none⟩) ∧ L.length ≤ cap ∧ L.length ≤ maxLen ∧ VS w V kd ch A L cap wx)
  case first =>
    go_wp2_with (go_at_call 10; (with_reducible refine Calls.mono (made_w _ _) ?_); rintro e w1 ⟨kd, ch, A, L, cap, rfl, hA, hc, hm, hb1⟩)
    go_meet
    case rel => exact ⟨_, kd, ch, A, L, cap, rfl, hc, by have := (made_len hm).2; unfold maxLen; simp only at this; omega, heap_alloc_new _ _, hA.alloc _, bl_alloc hb1 _⟩
  case rest =>
    obtain ⟨V, kd, ch, A, L, cap, rfl, hc, hl, hV⟩ := hcut
    have HV := Lib.hid hV
    clear hV
    obtain ⟨W, hWe⟩ : ∃ W : World, W = wc := ⟨_, rfl⟩
    subst hWe
    obtain ⟨i0, hi, hz0, hz1, hz2⟩ := info_parts int_info
    go_upto_block 0 with fail
    go_cut [14, 15] (fun s14 _ wx => ∃ zs : List Int, zs.length ≤ 4 ∧ wx.ownsRow W.heap.size 3 1 s14 zs.length (zs.map (Value.int .i64)) ∧ Below W.heap.size W wx)
    case first =>
      go_wp2_with fail
      go_loopw [14, 15] (fun s14 s15 wx => ∃ (i : Nat) (zs : List Int), i ≤ 4 ∧ i ≤ len5 ∧ zs.length = i ∧ s15 = .int .i64 i ∧ wx.ownsRow W.heap.size 3 1 s14 zs.length (zs.map (Value.int .i64)) ∧ Below W.heap.size W wx) (fun _ s15 _ => 4 - (intOf s15).toNat)
      case atStart => exact ⟨0, [], by omega, by omega, rfl, rfl, World.ownsRow_nil _ _ _ _, Below.refl _ _⟩
      case round =>
        obtain ⟨i, zs, i4, il, hzi, rfl, hown, hW⟩ := hrel
        have Hown := Lib.hid hown
        have HW := Lib.hid hW
        have HV1 := Lib.hid (HV.out.step hW)
        by_cases q : i < len5 ∧ i < 4
        · obtain ⟨q1, q2⟩ := q
          obtain ⟨b, o, z, rfl, lb, he, c0⟩ := ((HY.out.step HV.out.below).step hW).at_ (i := i) (by omega)
          have rz := fun w => round_w z 10 w (by omega) (by omega)
          have ⟨p0, p1⟩ := cutI_range z 10 (by omega)
          generalize cutI z 10 = y at rz p0 p1
          have w1 := w64 (x := 5 + y) (by omega)
          have d0 : (0 : Int) ≤ (i : Int) := by omega
          have d1 : (i : Int) < (len5 : Int) := by omega
          have d2 : (i : Int) < 4 := by omega
          have Hsz := Lib.hid hW.size
          have Hzi := Lib.hid hzi
          have hz4 : zs.length < 4 := by omega
          clear hown hW he hzi hy1
          go_wp2_with (first
            | (go_at_call 15; (with_reducible refine Calls.mono (rz _) ?_); rintro e w3 ⟨rfl, rfl⟩)
            | (at_builtin; go_loud (refine wpList_append_lies _ rfl (.tmp 35) (.tmp 42) 43 rfl W.heap.size 3 i0 _ 1 8 Try.underlying43 hi hz0 hz1 hz2 rfl (by omega) _ zs.length (zs.map (Value.int .i64)) rfl (Hown.out.alloc _) ⟨_, 0, none⟩ 1 1 [.int .i64 (5 + y)] rfl rfl (World.news_of_block (heap_at_new _ _ _ (by first | rfl | simp))) (by simp [Value.oneCell']) (by omega) (by unfold maxLen; omega) (by omega) (by have := Hsz.out; simp; omega) _ rfl ?_); intro gg cap4 w4 hown4 hg4 hat4 hlt4))
          go_roundw
          case rel => exact ⟨i + 1, zs ++ [5 + y], by omega, by omega, by rw [List.length_append, Hzi.out]; rfl, by go_num, by simpa using hown4, (HW.out.alloc Hsz.out _).grown hg4 (by have := Hsz.out; simp; omega) (fun g hg => (Hown.out.lt g hg).1)⟩
          case measure => simp [intOf]; omega
        · have hz4 : zs.length ≤ 4 := by omega
          by_cases q1 : i < len5
          · have q2 : ¬ i < 4 := fun h => q ⟨q1, h⟩
            clear q hown hW hzi
            go_wp2
            go_meet
            case rel => exact ⟨zs, hz4, Hown.out, HW.out⟩
          · clear q hown hW hzi
            go_wp2
            go_meet
            case rel => exact ⟨zs, hz4, Hown.out, HW.out⟩
    case rest =>
      obtain ⟨zs, hz4, hown, hW⟩ := hcut
      have hzl : zs.length ≤ maxLen := by unfold maxLen; omega
      obtain ⟨B, capz, hu, _, hZA⟩ := ZAs.of_own hown hzl
      subst hu
      have HZ := Lib.hid hZA
      have HV1 := Lib.hid (HV.out.step hW)
      clear HV hown hW hZA
      have HV := HV1
      clear HV1
      have r20 := fun w => round_w sector 20 w (by omega) (by omega)
      have ⟨a0, a1⟩ := cutI_range sector 20 (by omega)
      generalize cutI sector 20 = s' at r20 a0 a1
      have r12 := fun w => round_w count 12 w (by omega) (by omega)
      have ⟨b0, b1⟩ := cutI_range count 12 (by omega)
      generalize cutI count 12 = c at r12 b0 b1
      have r5 := fun w => round_w copy 5 w (by omega) (by omega)
      have ⟨e0, e1⟩ := cutI_range copy 5 (by omega)
      generalize cutI copy 5 = k' at r5 e0 e1
      obtain ⟨s, hs⟩ : ∃ s, s' - 1 = s := ⟨_, rfl⟩
      obtain ⟨k, hk⟩ : ∃ k, k' - 1 = k := ⟨_, rfl⟩
      have w1 := (w64 (x := s' - 1) (by omega)).trans hs
      have w2 := (w64 (x := k' - 1) (by omega)).trans hk
      have r4 := fun w => round_w drive 4 w (by omega) (by omega)
      generalize cutI drive 4 = d at r4
      clear hs hk
      go_upto_region 8 with (first
        | (go_at_call 15; (with_reducible refine Calls.mono (r20 _) ?_); rintro e w3 ⟨rfl, rfl⟩)
        | (go_at_call 15; (with_reducible refine Calls.mono (r12 _) ?_); rintro e w3 ⟨rfl, rfl⟩)
        | (go_at_call 15; (with_reducible refine Calls.mono (r5 _) ?_); rintro e w3 ⟨rfl, rfl⟩))
      clear r20 r12 r5 w1 w2 a0 a1 b0 b1 e0 e1
      have hfi := fun w' (hp : PA w' A L) => find_w kd ch A L cap d s w' hp hl hc
      have hrf := fun w' (hp : PA w' A L) => rFind_w kd ch A L cap d s w' hp hl
      unfold RetF at hfi hrf
      obtain ⟨fa, hfa⟩ : ∃ fa : Int, (((findP kd ch L d s).getD 0 : Nat) : Int) = fa := ⟨_, rfl⟩
      obtain ⟨fb, hfb⟩ : ∃ fb, (findP kd ch L d s).isSome = fb := ⟨_, rfl⟩
      rw [hfa, hfb] at hfi hrf
      clear hfa hfb
      go_cut [19, 20] (fun s19 s20 wx => s19 = .int .i64 fa ∧ s20 = .bool fb ∧ VS w V kd ch A L cap wx ∧ ZA wx B zs)
      case first =>
        refine wp_region_sp 9 115 [SP.eq (volV kd ch A L.length cap), SP.eq (.int .i64 drive), SP.eq (.int .i64 d), SP.eq (.int .i64 s), SP.eq (.tuple #[.int .i64 fa, .bool fb]), SP.eq (.tuple #[.int .i64 fa, .bool fb]), SP.eq (.int .i64 fa), SP.eq (.bool fb), SP.eq (.int .i64 fa)] (by kernel_rfl) (by kernel_rfl) rfl ?_
        simp only [List.take_succ_cons, List.take_zero, List.drop_succ_cons, List.drop_zero]
        refine relWalk_cons (fun x hC hd K hK => ?_) (fun v0 => ?_)
        · obtain ⟨u0, u1, u2⟩ := (HV.out.step hC).cell
          go_simp
          exact hK _ _ hC (Below.refl _ _) rfl
        simp only [Act.put, List.setIfInBounds_toArray, List.set_cons_zero, List.set_cons_succ]
        refine relWalk_cons (fun x hC hd K hK => ?_) (fun v1 => ?_)
        · go_simp
          exact hK _ _ hC (Below.refl _ _) rfl
        simp only [Act.put, List.setIfInBounds_toArray, List.set_cons_zero, List.set_cons_succ]
        refine relWalk_cons (fun x hC hd K hK => ?_) (fun v2 => ?_)
        · obtain rfl : v1 = _ := hd 1 (by kernel_rfl)
          go_simp
          go_at_call 15
          refine (r4 x).mono ?_
          rintro e w1 ⟨rfl, rfl⟩
          exact hK _ _ hC (Below.refl _ _) rfl
        simp only [Act.put, List.setIfInBounds_toArray, List.set_cons_zero, List.set_cons_succ]
        refine relWalk_cons (fun x hC hd K hK => ?_) (fun v3 => ?_)
        · go_simp
          exact hK _ _ hC (Below.refl _ _) rfl
        simp only [Act.put, List.setIfInBounds_toArray, List.set_cons_zero, List.set_cons_succ]
        refine relWalk_cons (fun x hC hd K hK => ?_) (fun v4 => ?_)
        · obtain rfl : v0 = _ := hd 0 (by kernel_rfl)
          obtain rfl : v2 = _ := hd 2 (by kernel_rfl)
          obtain rfl : v3 = _ := hd 3 (by kernel_rfl)
          go_simp
          go_at_call 18
          refine (hfi x (HV.out.step hC).pa).mono ?_
          rintro e w1 ⟨rfl, hb⟩
          exact hK _ _ (bl_step hC hb) hb rfl
        simp only [Act.put, List.setIfInBounds_toArray, List.set_cons_zero, List.set_cons_succ]
        refine relWalk_cons (fun x hC hd K hK => ?_) (fun v5 => ?_)
        · obtain rfl : v4 = _ := hd 4 (by kernel_rfl)
          go_simp
          exact hK _ _ hC (Below.refl _ _) rfl
        simp only [Act.put, List.setIfInBounds_toArray, List.set_cons_zero, List.set_cons_succ]
        refine relWalk_cons (fun x hC hd K hK => ?_) (fun v6 => ?_)
        · obtain rfl : v5 = _ := hd 5 (by kernel_rfl)
          go_simp
          exact hK _ _ hC (Below.refl _ _) rfl
        simp only [Act.put, List.setIfInBounds_toArray, List.set_cons_zero, List.set_cons_succ]
        refine relWalk_cons (fun x hC hd K hK => ?_) (fun v7 => ?_)
        · obtain rfl : v5 = _ := hd 5 (by kernel_rfl)
          go_simp
          exact hK _ _ hC (Below.refl _ _) rfl
        simp only [Act.put, List.setIfInBounds_toArray, List.set_cons_zero, List.set_cons_succ]
        refine relWalk_cons (fun x hC hd K hK => ?_) (fun v8 => ?_)
        · obtain rfl : v6 = _ := hd 6 (by kernel_rfl)
          go_simp
          exact hK _ _ hC (Below.refl _ _) rfl
        simp only [Act.put, List.setIfInBounds_toArray, List.set_cons_zero, List.set_cons_succ]
        refine relWalk_nil ?_
        intro x' hC hG
        obtain rfl : v7 = _ := hG 7 (by omega)
        obtain rfl : v8 = _ := hG 8 (by omega)
        clear hG
        go_wp2
        go_meet
        case rel => exact ⟨rfl, rfl, HV.out.step hC, HZ.out.step hC⟩
      case rest =>
        obtain ⟨rfl, rfl, hV, hZ⟩ := hcut
        clear HV HZ
        have HV := Lib.hid hV
        have HZ := Lib.hid hZ
        clear hV hZ
        go_upto_region 9 with fail
        go_cut [21, 22] (fun s21 s22 wx => s21 = .int .i64 fa ∧ s22 = .bool fb ∧ VS w V kd ch A L cap wx ∧ ZA wx B zs)
        case first =>
          refine wp_region_sp 9 115 [SP.eq (volV kd ch A L.length cap), SP.eq (.int .i64 drive), SP.eq (.int .i64 d), SP.eq (.int .i64 s), SP.eq (.tuple #[.int .i64 fa, .bool fb]), SP.eq (.tuple #[.int .i64 fa, .bool fb]), SP.eq (.int .i64 fa), SP.eq (.bool fb), SP.eq (.int .i64 fa)] (by kernel_rfl) (by kernel_rfl) rfl ?_
          simp only [List.take_succ_cons, List.take_zero, List.drop_succ_cons, List.drop_zero]
          refine relWalk_cons (fun x hC hd K hK => ?_) (fun v0 => ?_)
          · obtain ⟨u0, u1, u2⟩ := (HV.out.step hC).cell
            go_simp
            exact hK _ _ hC (Below.refl _ _) rfl
          simp only [Act.put, List.setIfInBounds_toArray, List.set_cons_zero, List.set_cons_succ]
          refine relWalk_cons (fun x hC hd K hK => ?_) (fun v1 => ?_)
          · go_simp
            exact hK _ _ hC (Below.refl _ _) rfl
          simp only [Act.put, List.setIfInBounds_toArray, List.set_cons_zero, List.set_cons_succ]
          refine relWalk_cons (fun x hC hd K hK => ?_) (fun v2 => ?_)
          · obtain rfl : v1 = _ := hd 1 (by kernel_rfl)
            go_simp
            go_at_call 15
            refine (r4 x).mono ?_
            rintro e w1 ⟨rfl, rfl⟩
            exact hK _ _ hC (Below.refl _ _) rfl
          simp only [Act.put, List.setIfInBounds_toArray, List.set_cons_zero, List.set_cons_succ]
          refine relWalk_cons (fun x hC hd K hK => ?_) (fun v3 => ?_)
          · go_simp
            exact hK _ _ hC (Below.refl _ _) rfl
          simp only [Act.put, List.setIfInBounds_toArray, List.set_cons_zero, List.set_cons_succ]
          refine relWalk_cons (fun x hC hd K hK => ?_) (fun v4 => ?_)
          · obtain rfl : v0 = _ := hd 0 (by kernel_rfl)
            obtain rfl : v2 = _ := hd 2 (by kernel_rfl)
            obtain rfl : v3 = _ := hd 3 (by kernel_rfl)
            go_simp
            go_at_call 19
            refine (hrf x (HV.out.step hC).pa).mono ?_
            rintro e w1 ⟨rfl, hb⟩
            exact hK _ _ (bl_step hC hb) hb rfl
          simp only [Act.put, List.setIfInBounds_toArray, List.set_cons_zero, List.set_cons_succ]
          refine relWalk_cons (fun x hC hd K hK => ?_) (fun v5 => ?_)
          · obtain rfl : v4 = _ := hd 4 (by kernel_rfl)
            go_simp
            exact hK _ _ hC (Below.refl _ _) rfl
          simp only [Act.put, List.setIfInBounds_toArray, List.set_cons_zero, List.set_cons_succ]
          refine relWalk_cons (fun x hC hd K hK => ?_) (fun v6 => ?_)
          · obtain rfl : v5 = _ := hd 5 (by kernel_rfl)
            go_simp
            exact hK _ _ hC (Below.refl _ _) rfl
          simp only [Act.put, List.setIfInBounds_toArray, List.set_cons_zero, List.set_cons_succ]
          refine relWalk_cons (fun x hC hd K hK => ?_) (fun v7 => ?_)
          · obtain rfl : v5 = _ := hd 5 (by kernel_rfl)
            go_simp
            exact hK _ _ hC (Below.refl _ _) rfl
          simp only [Act.put, List.setIfInBounds_toArray, List.set_cons_zero, List.set_cons_succ]
          refine relWalk_cons (fun x hC hd K hK => ?_) (fun v8 => ?_)
          · obtain rfl : v6 = _ := hd 6 (by kernel_rfl)
            go_simp
            exact hK _ _ hC (Below.refl _ _) rfl
          simp only [Act.put, List.setIfInBounds_toArray, List.set_cons_zero, List.set_cons_succ]
          refine relWalk_nil ?_
          intro x' hC hG
          obtain rfl : v7 = _ := hG 7 (by omega)
          obtain rfl : v8 = _ := hG 8 (by omega)
          clear hG
          go_wp2
          go_meet
          case rel => exact ⟨rfl, rfl, HV.out.step hC, HZ.out.step hC⟩
        case rest =>
          obtain ⟨rfl, rfl, hV, hZ⟩ := hcut
          clear HV HZ
          have HV := Lib.hid hV
          have HZ := Lib.hid hZ
          clear hV hZ hfi hrf r4
          go_upto_region 10 with fail
          have hsz := fun w' (hp : PA w' A L) => Size_w kd ch A L cap w' hp hl hc
          have hrs := fun w' (hp : PA w' A L) => rSize_w kd ch A L cap w' hp hl
          have hva := fun w' (hp : PA w' A L) (hz : ZA w' B zs) => valid_w kd ch A L cap B zs capz w' hp hl hc hz hzl
          have hrv := fun w' (hp : PA w' A L) (hz : ZA w' B zs) => rVolume_w kd ch A L cap B zs capz w' hp hl hz hzl
          have hma := fun w' (hp : PA w' A L) => map_w kd ch A L cap s c k w' hp hl hc
          have hrm := fun w' (hp : PA w' A L) => rMap_w kd ch A L cap s c k w' hp hl hc
          have hdr := fun w' (hp : PA w' A L) => drives_w kd ch A L cap w' hp hl hc
          have hrd := fun w' (hp : PA w' A L) => rDrives_w kd ch A L cap w' hp hl
          generalize szB kd ch L = size at hsz hrs
          generalize validB kd ch L zs = vb at hva hrv
          generalize mapP kd ch L s c k = l at hma hrm
          generalize dvP kd ch L = dv at hdr hrd
          refine wp_region_sg 47 115 [SP.eq (volV kd ch A L.length cap), SP.eq (.slice B zs.length capz), SP.eq (.bool vb), SP.eq (volV kd ch A L.length cap), SP.eq (.slice B zs.length capz), SP.eq (.bool vb), SP.eq (.bool true), SP.eq (.bool true),
            SP.eq (volV kd ch A L.length cap), SP.eq (.int .i64 size), SP.eq (volV kd ch A L.length cap), SP.eq (.int .i64 size), SP.eq (.bool true), SP.eq (.bool true), SP.eq (.bool true),
            SP.eq (volV kd ch A L.length cap), SP.eq (.int .i64 s), SP.eq (.int .i64 c), SP.eq (.int .i64 k), SP.pc l, SP.eq (volV kd ch A L.length cap), SP.eq (.int .i64 s), SP.eq (.int .i64 c), SP.eq (.int .i64 k), SP.pc l, SP.eq (.bool true), SP.eq (.bool true), SP.eq (.bool true),
            SP.eq (.int .i64 fa), SP.eq (.int .i64 fa), SP.eq (.bool true), SP.eq (.bool true), SP.eq (.bool true), SP.eq (.bool fb), SP.eq (.bool fb), SP.eq (.bool true), SP.eq (.bool true), SP.eq (.bool true),
            SP.eq (volV kd ch A L.length cap), SP.zs dv, SP.eq (volV kd ch A L.length cap), SP.zs dv, SP.eq (.bool true), SP.eq (.bool true), SP.eq (.bool true), SP.eq (.bool true), SP.eq (.bool true)] kbF (fun _ => false) (by kernel_rfl) (by kernel_rfl) (by kernel_rfl) rfl (fun k b h v w hv => by
              unfold kbF at h
              split at h
              all_goals first | (cases h; exact hv) | cases h) ?_
          simp only [List.take_succ_cons, List.take_zero, List.drop_succ_cons, List.drop_zero]
          refine relWalkG_cons rfl (fun x hC hd K hK => ?_) (fun v0 => ?_)
          · obtain ⟨u0, u1, u2⟩ := (HV.out.step hC).cell
            go_simp
            exact hK _ _ hC (Below.refl _ _) rfl
          simp only [Act.put, List.setIfInBounds_toArray, List.set_cons_zero, List.set_cons_succ]
          refine relWalkG_cons rfl (fun x hC hd K hK => ?_) (fun v1 => ?_)
          · go_simp
            exact hK _ _ hC (Below.refl _ _) rfl
          simp only [Act.put, List.setIfInBounds_toArray, List.set_cons_zero, List.set_cons_succ]
          refine relWalkG_cons rfl (fun x hC hd K hK => ?_) (fun v2 => ?_)
          · obtain rfl : v0 = _ := hd 0 (by kernel_rfl)
            obtain rfl : v1 = _ := hd 1 (by kernel_rfl)
            go_simp
            go_at_call 20
            refine (hva x (HV.out.step hC).pa (HZ.out.step hC)).mono ?_
            rintro e w1 ⟨rfl, hb⟩; exact hK _ _ (bl_step hC hb) hb rfl
          simp only [Act.put, List.setIfInBounds_toArray, List.set_cons_zero, List.set_cons_succ]
          refine relWalkG_cons rfl (fun x hC hd K hK => ?_) (fun v3 => ?_)
          · obtain ⟨u0, u1, u2⟩ := (HV.out.step hC).cell
            go_simp
            exact hK _ _ hC (Below.refl _ _) rfl
          simp only [Act.put, List.setIfInBounds_toArray, List.set_cons_zero, List.set_cons_succ]
          refine relWalkG_cons rfl (fun x hC hd K hK => ?_) (fun v4 => ?_)
          · go_simp
            exact hK _ _ hC (Below.refl _ _) rfl
          simp only [Act.put, List.setIfInBounds_toArray, List.set_cons_zero, List.set_cons_succ]
          refine relWalkG_cons rfl (fun x hC hd K hK => ?_) (fun v5 => ?_)
          · obtain rfl : v3 = _ := hd 3 (by kernel_rfl)
            obtain rfl : v4 = _ := hd 4 (by kernel_rfl)
            go_simp
            go_at_call 21
            refine (hrv x (HV.out.step hC).pa (HZ.out.step hC)).mono ?_
            rintro e w1 ⟨rfl, hb⟩; exact hK _ _ (bl_step hC hb) hb rfl
          simp only [Act.put, List.setIfInBounds_toArray, List.set_cons_zero, List.set_cons_succ]
          refine relWalkG_cons rfl (fun x hC hd K hK => ?_) (fun v6 => ?_)
          · obtain rfl : v2 = _ := hd 2 (by kernel_rfl)
            obtain rfl : v5 = _ := hd 5 (by kernel_rfl)
            go_simp
            exact hK _ _ hC (Below.refl _ _) (by simp [SP.eq, GS])
          simp only [Act.put, List.setIfInBounds_toArray, List.set_cons_zero, List.set_cons_succ]
          refine relWalkG_cons rfl (fun x hC hd K hK => ?_) (fun v7 => ?_)
          · obtain rfl : v6 = _ := hd 6 (by kernel_rfl)
            go_simp
            exact hK _ _ hC (Below.refl _ _) rfl
          simp only [Act.put, List.setIfInBounds_toArray, List.set_cons_zero, List.set_cons_succ]
          refine relWalkG_cons rfl (fun x hC hd K hK => ?_) (fun v8 => ?_)
          · obtain ⟨u0, u1, u2⟩ := (HV.out.step hC).cell
            go_simp
            exact hK _ _ hC (Below.refl _ _) rfl
          simp only [Act.put, List.setIfInBounds_toArray, List.set_cons_zero, List.set_cons_succ]
          refine relWalkG_cons rfl (fun x hC hd K hK => ?_) (fun v9 => ?_)
          · obtain rfl : v8 = _ := hd 8 (by kernel_rfl)
            go_simp
            go_at_call 11
            refine (hsz x (HV.out.step hC).pa).mono ?_
            rintro e w1 ⟨rfl, hb⟩; exact hK _ _ (bl_step hC hb) hb rfl
          simp only [Act.put, List.setIfInBounds_toArray, List.set_cons_zero, List.set_cons_succ]
          refine relWalkG_cons rfl (fun x hC hd K hK => ?_) (fun v10 => ?_)
          · obtain ⟨u0, u1, u2⟩ := (HV.out.step hC).cell
            go_simp
            exact hK _ _ hC (Below.refl _ _) rfl
          simp only [Act.put, List.setIfInBounds_toArray, List.set_cons_zero, List.set_cons_succ]
          refine relWalkG_cons rfl (fun x hC hd K hK => ?_) (fun v11 => ?_)
          · obtain rfl : v10 = _ := hd 10 (by kernel_rfl)
            go_simp
            go_at_call 12
            refine (hrs x (HV.out.step hC).pa).mono ?_
            rintro e w1 ⟨rfl, hb⟩; exact hK _ _ (bl_step hC hb) hb rfl
          simp only [Act.put, List.setIfInBounds_toArray, List.set_cons_zero, List.set_cons_succ]
          refine relWalkG_cons rfl (fun x hC hd K hK => ?_) (fun v12 => ?_)
          · obtain rfl : v9 = _ := hd 9 (by kernel_rfl)
            obtain rfl : v11 = _ := hd 11 (by kernel_rfl)
            go_simp
            exact hK _ _ hC (Below.refl _ _) (by simp [SP.eq, GS])
          simp only [Act.put, List.setIfInBounds_toArray, List.set_cons_zero, List.set_cons_succ]
          refine relWalkG_cons rfl (fun x hC hd K hK => ?_) (fun v13 => ?_)
          · obtain rfl : v7 = _ := hd 7 (by kernel_rfl)
            obtain rfl : v12 = _ := hd 12 (by kernel_rfl)
            go_simp
            exact hK _ _ hC (Below.refl _ _) rfl
          simp only [Act.put, List.setIfInBounds_toArray, List.set_cons_zero, List.set_cons_succ]
          refine relWalkG_cons rfl (fun x hC hd K hK => ?_) (fun v14 => ?_)
          · obtain rfl : v13 = _ := hd 13 (by kernel_rfl)
            go_simp
            exact hK _ _ hC (Below.refl _ _) rfl
          simp only [Act.put, List.setIfInBounds_toArray, List.set_cons_zero, List.set_cons_succ]
          refine relWalkG_cons rfl (fun x hC hd K hK => ?_) (fun v15 => ?_)
          · obtain ⟨u0, u1, u2⟩ := (HV.out.step hC).cell
            go_simp
            exact hK _ _ hC (Below.refl _ _) rfl
          simp only [Act.put, List.setIfInBounds_toArray, List.set_cons_zero, List.set_cons_succ]
          refine relWalkG_cons rfl (fun x hC hd K hK => ?_) (fun v16 => ?_)
          · go_simp
            exact hK _ _ hC (Below.refl _ _) rfl
          simp only [Act.put, List.setIfInBounds_toArray, List.set_cons_zero, List.set_cons_succ]
          refine relWalkG_cons rfl (fun x hC hd K hK => ?_) (fun v17 => ?_)
          · go_simp
            exact hK _ _ hC (Below.refl _ _) rfl
          simp only [Act.put, List.setIfInBounds_toArray, List.set_cons_zero, List.set_cons_succ]
          refine relWalkG_cons rfl (fun x hC hd K hK => ?_) (fun v18 => ?_)
          · go_simp
            exact hK _ _ hC (Below.refl _ _) rfl
          simp only [Act.put, List.setIfInBounds_toArray, List.set_cons_zero, List.set_cons_succ]
          refine relWalkG_cons rfl (fun x hC hd K hK => ?_) (fun v19 => ?_)
          · obtain rfl : v15 = _ := hd 15 (by kernel_rfl)
            obtain rfl : v16 = _ := hd 16 (by kernel_rfl)
            obtain rfl : v17 = _ := hd 17 (by kernel_rfl)
            obtain rfl : v18 = _ := hd 18 (by kernel_rfl)
            go_simp
            go_at_call 13
            refine (hma x (HV.out.step hC).pa).mono ?_
            rintro e w1 ⟨v, rfl, hP, hb⟩; exact hK _ _ (bl_step hC hb) hb hP
          simp only [Act.put, List.setIfInBounds_toArray, List.set_cons_zero, List.set_cons_succ]
          refine relWalkG_cons rfl (fun x hC hd K hK => ?_) (fun v20 => ?_)
          · obtain ⟨u0, u1, u2⟩ := (HV.out.step hC).cell
            go_simp
            exact hK _ _ hC (Below.refl _ _) rfl
          simp only [Act.put, List.setIfInBounds_toArray, List.set_cons_zero, List.set_cons_succ]
          refine relWalkG_cons rfl (fun x hC hd K hK => ?_) (fun v21 => ?_)
          · go_simp
            exact hK _ _ hC (Below.refl _ _) rfl
          simp only [Act.put, List.setIfInBounds_toArray, List.set_cons_zero, List.set_cons_succ]
          refine relWalkG_cons rfl (fun x hC hd K hK => ?_) (fun v22 => ?_)
          · go_simp
            exact hK _ _ hC (Below.refl _ _) rfl
          simp only [Act.put, List.setIfInBounds_toArray, List.set_cons_zero, List.set_cons_succ]
          refine relWalkG_cons rfl (fun x hC hd K hK => ?_) (fun v23 => ?_)
          · go_simp
            exact hK _ _ hC (Below.refl _ _) rfl
          simp only [Act.put, List.setIfInBounds_toArray, List.set_cons_zero, List.set_cons_succ]
          refine relWalkG_cons rfl (fun x hC hd K hK => ?_) (fun v24 => ?_)
          · obtain rfl : v20 = _ := hd 20 (by kernel_rfl)
            obtain rfl : v21 = _ := hd 21 (by kernel_rfl)
            obtain rfl : v22 = _ := hd 22 (by kernel_rfl)
            obtain rfl : v23 = _ := hd 23 (by kernel_rfl)
            go_simp
            go_at_call 23
            refine (hrm x (HV.out.step hC).pa).mono ?_
            rintro e w1 ⟨v, rfl, hP, hb⟩; exact hK _ _ (bl_step hC hb) hb hP
          simp only [Act.put, List.setIfInBounds_toArray, List.set_cons_zero, List.set_cons_succ]
          refine relWalkG_cons rfl (fun x hC hd K hK => ?_) (fun v25 => ?_)
          · have g1 : PcA x v19 l := hd 19 (by kernel_rfl)
            have g2 : PcA x v24 l := hd 24 (by kernel_rfl)
            go_simp
            go_at_call 22
            refine (samePieces_w _ _ l x g1 g2).mono ?_
            rintro e w1 ⟨rfl, hb⟩; exact hK _ _ (bl_step hC hb) hb rfl
          simp only [Act.put, List.setIfInBounds_toArray, List.set_cons_zero, List.set_cons_succ]
          refine relWalkG_cons rfl (fun x hC hd K hK => ?_) (fun v26 => ?_)
          · obtain rfl : v14 = _ := hd 14 (by kernel_rfl)
            obtain rfl : v25 = _ := hd 25 (by kernel_rfl)
            go_simp
            exact hK _ _ hC (Below.refl _ _) rfl
          simp only [Act.put, List.setIfInBounds_toArray, List.set_cons_zero, List.set_cons_succ]
          refine relWalkG_cons rfl (fun x hC hd K hK => ?_) (fun v27 => ?_)
          · obtain rfl : v26 = _ := hd 26 (by kernel_rfl)
            go_simp
            exact hK _ _ hC (Below.refl _ _) rfl
          simp only [Act.put, List.setIfInBounds_toArray, List.set_cons_zero, List.set_cons_succ]
          refine relWalkG_cons rfl (fun x hC hd K hK => ?_) (fun v28 => ?_)
          · go_simp
            exact hK _ _ hC (Below.refl _ _) rfl
          simp only [Act.put, List.setIfInBounds_toArray, List.set_cons_zero, List.set_cons_succ]
          refine relWalkG_cons rfl (fun x hC hd K hK => ?_) (fun v29 => ?_)
          · go_simp
            exact hK _ _ hC (Below.refl _ _) rfl
          simp only [Act.put, List.setIfInBounds_toArray, List.set_cons_zero, List.set_cons_succ]
          refine relWalkG_cons rfl (fun x hC hd K hK => ?_) (fun v30 => ?_)
          · obtain rfl : v28 = _ := hd 28 (by kernel_rfl)
            obtain rfl : v29 = _ := hd 29 (by kernel_rfl)
            go_simp
            exact hK _ _ hC (Below.refl _ _) (by simp [SP.eq, GS])
          simp only [Act.put, List.setIfInBounds_toArray, List.set_cons_zero, List.set_cons_succ]
          refine relWalkG_cons rfl (fun x hC hd K hK => ?_) (fun v31 => ?_)
          · obtain rfl : v27 = _ := hd 27 (by kernel_rfl)
            obtain rfl : v30 = _ := hd 30 (by kernel_rfl)
            go_simp
            exact hK _ _ hC (Below.refl _ _) rfl
          simp only [Act.put, List.setIfInBounds_toArray, List.set_cons_zero, List.set_cons_succ]
          refine relWalkG_cons rfl (fun x hC hd K hK => ?_) (fun v32 => ?_)
          · obtain rfl : v31 = _ := hd 31 (by kernel_rfl)
            go_simp
            exact hK _ _ hC (Below.refl _ _) rfl
          simp only [Act.put, List.setIfInBounds_toArray, List.set_cons_zero, List.set_cons_succ]
          refine relWalkG_cons rfl (fun x hC hd K hK => ?_) (fun v33 => ?_)
          · go_simp
            exact hK _ _ hC (Below.refl _ _) rfl
          simp only [Act.put, List.setIfInBounds_toArray, List.set_cons_zero, List.set_cons_succ]
          refine relWalkG_cons rfl (fun x hC hd K hK => ?_) (fun v34 => ?_)
          · go_simp
            exact hK _ _ hC (Below.refl _ _) rfl
          simp only [Act.put, List.setIfInBounds_toArray, List.set_cons_zero, List.set_cons_succ]
          refine relWalkG_cons rfl (fun x hC hd K hK => ?_) (fun v35 => ?_)
          · obtain rfl : v33 = _ := hd 33 (by kernel_rfl)
            obtain rfl : v34 = _ := hd 34 (by kernel_rfl)
            go_simp
            exact hK _ _ hC (Below.refl _ _) (by simp [SP.eq, GS])
          simp only [Act.put, List.setIfInBounds_toArray, List.set_cons_zero, List.set_cons_succ]
          refine relWalkG_cons rfl (fun x hC hd K hK => ?_) (fun v36 => ?_)
          · obtain rfl : v32 = _ := hd 32 (by kernel_rfl)
            obtain rfl : v35 = _ := hd 35 (by kernel_rfl)
            go_simp
            exact hK _ _ hC (Below.refl _ _) rfl
          simp only [Act.put, List.setIfInBounds_toArray, List.set_cons_zero, List.set_cons_succ]
          refine relWalkG_cons rfl (fun x hC hd K hK => ?_) (fun v37 => ?_)
          · obtain rfl : v36 = _ := hd 36 (by kernel_rfl)
            go_simp
            exact hK _ _ hC (Below.refl _ _) rfl
          simp only [Act.put, List.setIfInBounds_toArray, List.set_cons_zero, List.set_cons_succ]
          refine relWalkG_cons rfl (fun x hC hd K hK => ?_) (fun v38 => ?_)
          · obtain ⟨u0, u1, u2⟩ := (HV.out.step hC).cell
            go_simp
            exact hK _ _ hC (Below.refl _ _) rfl
          simp only [Act.put, List.setIfInBounds_toArray, List.set_cons_zero, List.set_cons_succ]
          refine relWalkG_cons rfl (fun x hC hd K hK => ?_) (fun v39 => ?_)
          · obtain rfl : v38 = _ := hd 38 (by kernel_rfl)
            go_simp
            go_at_call 25
            refine (hdr x (HV.out.step hC).pa).mono ?_
            rintro e w1 ⟨v, rfl, hP, hb⟩; exact hK _ _ (bl_step hC hb) hb hP
          simp only [Act.put, List.setIfInBounds_toArray, List.set_cons_zero, List.set_cons_succ]
          refine relWalkG_cons rfl (fun x hC hd K hK => ?_) (fun v40 => ?_)
          · obtain ⟨u0, u1, u2⟩ := (HV.out.step hC).cell
            go_simp
            exact hK _ _ hC (Below.refl _ _) rfl
          simp only [Act.put, List.setIfInBounds_toArray, List.set_cons_zero, List.set_cons_succ]
          refine relWalkG_cons rfl (fun x hC hd K hK => ?_) (fun v41 => ?_)
          · obtain rfl : v40 = _ := hd 40 (by kernel_rfl)
            go_simp
            go_at_call 26
            refine (hrd x (HV.out.step hC).pa).mono ?_
            rintro e w1 ⟨v, rfl, hP, hb⟩; exact hK _ _ (bl_step hC hb) hb hP
          simp only [Act.put, List.setIfInBounds_toArray, List.set_cons_zero, List.set_cons_succ]
          refine relWalkG_cons rfl (fun x hC hd K hK => ?_) (fun v42 => ?_)
          · have g1 : ZAs x v39 dv := hd 39 (by kernel_rfl)
            have g2 : ZAs x v41 dv := hd 41 (by kernel_rfl)
            go_simp
            go_at_call 24
            refine (sameInts_w _ _ dv x g1 g2).mono ?_
            rintro e w1 ⟨rfl, hb⟩; exact hK _ _ (bl_step hC hb) hb rfl
          simp only [Act.put, List.setIfInBounds_toArray, List.set_cons_zero, List.set_cons_succ]
          refine relWalkG_cons rfl (fun x hC hd K hK => ?_) (fun v43 => ?_)
          · obtain rfl : v37 = _ := hd 37 (by kernel_rfl)
            obtain rfl : v42 = _ := hd 42 (by kernel_rfl)
            go_simp
            exact hK _ _ hC (Below.refl _ _) rfl
          simp only [Act.put, List.setIfInBounds_toArray, List.set_cons_zero, List.set_cons_succ]
          refine relWalkG_cons rfl (fun x hC hd K hK => ?_) (fun v44 => ?_)
          · obtain rfl : v43 = _ := hd 43 (by kernel_rfl)
            go_simp
            exact hK _ _ hC (Below.refl _ _) rfl
          simp only [Act.put, List.setIfInBounds_toArray, List.set_cons_zero, List.set_cons_succ]
          refine relWalkG_cons rfl (fun x hC hd K hK => ?_) (fun v45 => ?_)
          · go_simp
            go_at_call 14
            refine (awake_w x).mono ?_
            rintro e w1 ⟨rfl, hb⟩; exact hK _ _ (bl_step hC hb) hb rfl
          simp only [Act.put, List.setIfInBounds_toArray, List.set_cons_zero, List.set_cons_succ]
          refine relWalkG_cons rfl (fun x hC hd K hK => ?_) (fun v46 => ?_)
          · obtain rfl : v44 = _ := hd 44 (by kernel_rfl)
            obtain rfl : v45 = _ := hd 45 (by kernel_rfl)
            go_simp
            exact hK _ _ hC (Below.refl _ _) rfl
          simp only [Act.put, List.setIfInBounds_toArray, List.set_cons_zero, List.set_cons_succ]
          refine relWalkG_nil ?_
          intro x' hC hG
          obtain rfl : v46 = _ := hG 46 (by omega)
          clear hG
          have HB := Lib.hid (bl_step HV.out.below hC)
          go_wp2
          go_ret
          exact ⟨rfl, HB.out⟩

end Go.Proofs.Ytdeggdbaeeamiaa
