/-
  The law VolumeExact: the walk.
-/
import Derived.Test.YtdeggdbaeeamiaaVolU
namespace Go.Proofs.Ytdeggdbaeeamiaa
open Go.RowKit
set_option linter.unusedVariables false
set_option linter.unusedSimpArgs false

set_option maxRecDepth 100000 in
set_option maxHeartbeats 4000000 in
theorem volumeExact_walk (kd ch : Int) (A : Option Addr) (L : List Seg) (cap : Nat) (B : Option Addr) (zs : List Int) (capz : Nat) (s c k d : Int) (w : World) (h : PA w A L) (hl : L.length ≤ maxLen) (hc : L.length ≤ cap) (hz : ZA w B zs) (hzl : zs.length ≤ maxLen) :
    Calls Try.prog 8 #[volV kd ch A L.length cap, .slice B zs.length capz, .int .i64 s, .int .i64 c, .int .i64 k, .int .i64 d] w fun e w' => e = .returned (.bool true) ∧ Below w.heap.size w w' := by
  have HV := Lib.hid (VS.new (kd := kd) (ch := ch) (cap := cap) h)
  have HZ := Lib.hid hz
  clear h hz
  have HB0 := Lib.hid HV.out.below
  have hl' := hl
  have hzl' := hzl
  unfold maxLen at hl' hzl'
  by_cases q1 : 8 < L.length
  · go_enter Try.func8, Try.ntmps8
    go_wp2
    go_ret
    exact ⟨rfl, HB0.out⟩
  · by_cases q2 : 20 < zs.length
    · go_enter Try.func8, Try.ntmps8
      go_wp2
      go_ret
      exact ⟨rfl, HB0.out⟩
    · obtain ⟨V, hVe⟩ : ∃ V, V = w.heap.size := ⟨_, rfl⟩
      rw [← hVe] at HV
      have HVe := Lib.hid hVe
      clear hVe
      have hfi := fun w' (hp : PA w' A L) => find_w kd ch A L cap d s w' hp hl hc
      have hrf := fun w' (hp : PA w' A L) => rFind_w kd ch A L cap d s w' hp hl
      unfold RetF at hfi hrf
      obtain ⟨fa, hfa⟩ : ∃ fa : Int, (((findP kd ch L d s).getD 0 : Nat) : Int) = fa := ⟨_, rfl⟩
      obtain ⟨fb, hfb⟩ : ∃ fb, (findP kd ch L d s).isSome = fb := ⟨_, rfl⟩
      rw [hfa, hfb] at hfi hrf
      clear hfa hfb
      go_enter Try.func8, Try.ntmps8
      go_upto_region 0 with fail
      go_cut [6] (fun s6 wx => s6 = .pointer (some ⟨V, 0, none⟩) ∧ VS w V kd ch A L cap wx ∧ ZA wx B zs)
      case first =>
        go_wp2
        go_meet
        case rel => exact ⟨by rw [HVe.out], HV.out, HZ.out.alloc _⟩
      case rest =>
        obtain ⟨rfl, hV, hZ⟩ := hcut
        clear HV HZ
        have HV := Lib.hid hV
        have HZ := Lib.hid hZ
        obtain ⟨v0, v1, v2⟩ := hV.cell
        clear hV hZ
        go_upto_region 3 with fail
        go_cut [13, 14] (fun s13 s14 wx => s13 = .int .i64 fa ∧ s14 = .bool fb ∧ VS w V kd ch A L cap wx ∧ ZA wx B zs)
        case first =>
          go_wp2_with (go_at_call 18; (with_reducible refine Calls.mono (hfi _ HV.out.pa) ?_); rintro e w1 ⟨rfl, hb1⟩; have HV1 := Lib.hid (HV.out.step hb1); have HZ1 := Lib.hid (HZ.out.step hb1))
          go_meet
          case rel => exact ⟨rfl, rfl, HV1.out, HZ1.out⟩
        case rest =>
          clear v0 v1 v2
          obtain ⟨rfl, rfl, hV, hZ⟩ := hcut
          clear HV HZ
          have HV := Lib.hid hV
          have HZ := Lib.hid hZ
          obtain ⟨v0, v1, v2⟩ := hV.cell
          clear hV hZ
          go_upto_region 4 with fail
          go_cut [15, 16] (fun s15 s16 wx => s15 = .int .i64 fa ∧ s16 = .bool fb ∧ VS w V kd ch A L cap wx ∧ ZA wx B zs)
          case first =>
            go_wp2_with (go_at_call 19; (with_reducible refine Calls.mono (hrf _ HV.out.pa) ?_); rintro e w1 ⟨rfl, hb1⟩; have HV1 := Lib.hid (HV.out.step hb1); have HZ1 := Lib.hid (HZ.out.step hb1))
            go_meet
            case rel => exact ⟨rfl, rfl, HV1.out, HZ1.out⟩
          case rest =>
            clear v0 v1 v2
            obtain ⟨rfl, rfl, hV, hZ⟩ := hcut
            clear HV HZ
            have HV := Lib.hid hV
            have HZ := Lib.hid hZ
            clear hV hZ hfi hrf
            go_upto_region 5 with fail
            have hsz := fun w' (hp : PA w' A L) => Size_w kd ch A L cap w' hp hl hc
            have hrs := fun w' (hp : PA w' A L) => rSize_w kd ch A L cap w' hp hl
            have hva := fun w' (hp : PA w' A L) (hz : ZA w' B zs) => valid_w kd ch A L cap B zs capz w' hp hl hc hz hzl
            have hrv := fun w' (hp : PA w' A L) (hz : ZA w' B zs) => rVolume_w kd ch A L cap B zs capz w' hp hl hz hzl
            have hma := fun w' (hp : PA w' A L) => map_w kd ch A L cap s c k w' hp hl hc
            have hrm := fun w' (hp : PA w' A L) => rMap_w kd ch A L cap s c k w' hp hl hc
            have hdr := fun w' (hp : PA w' A L) => drives_w kd ch A L cap w' hp hl hc
            have hrd := fun w' (hp : PA w' A L) => rDrives_w kd ch A L cap w' hp hl
            generalize szB kd ch L = size at hsz hrs
            generalize validB kd ch L zs = vb at hva hrv
            generalize mapP kd ch L s c k = l at hma hrm
            generalize dvP kd ch L = dv at hdr hrd
            refine wp_region_sg 47 87 [SP.eq (volV kd ch A L.length cap), SP.eq (.slice B zs.length capz), SP.eq (.bool vb), SP.eq (volV kd ch A L.length cap), SP.eq (.slice B zs.length capz), SP.eq (.bool vb), SP.eq (.bool true), SP.eq (.bool true),
              SP.eq (volV kd ch A L.length cap), SP.eq (.int .i64 size), SP.eq (volV kd ch A L.length cap), SP.eq (.int .i64 size), SP.eq (.bool true), SP.eq (.bool true), SP.eq (.bool true),
              SP.eq (volV kd ch A L.length cap), SP.eq (.int .i64 s), SP.eq (.int .i64 c), SP.eq (.int .i64 k), SP.pc l, SP.eq (volV kd ch A L.length cap), SP.eq (.int .i64 s), SP.eq (.int .i64 c), SP.eq (.int .i64 k), SP.pc l, SP.eq (.bool true), SP.eq (.bool true), SP.eq (.bool true),
              SP.eq (.int .i64 fa), SP.eq (.int .i64 fa), SP.eq (.bool true), SP.eq (.bool true), SP.eq (.bool true), SP.eq (.bool fb), SP.eq (.bool fb), SP.eq (.bool true), SP.eq (.bool true), SP.eq (.bool true),
              SP.eq (volV kd ch A L.length cap), SP.zs dv, SP.eq (volV kd ch A L.length cap), SP.zs dv, SP.eq (.bool true), SP.eq (.bool true), SP.eq (.bool true), SP.eq (.bool true), SP.eq (.bool true)] kbF (fun _ => false) (by kernel_rfl) (by kernel_rfl) (by kernel_rfl) rfl (fun k b h v w hv => by
                unfold kbF at h
                split at h
                all_goals first | (cases h; exact hv) | cases h) ?_
            simp only [List.take_succ_cons, List.take_zero, List.drop_succ_cons, List.drop_zero]
            refine relWalkG_cons rfl (fun x hC hd K hK => ?_) (fun v0 => ?_)
            · obtain ⟨u0, u1, u2⟩ := (HV.out.step hC).cell
              go_simp
              exact hK _ _ hC (Below.refl _ _) rfl
            simp only [Act.put, List.setIfInBounds_toArray, List.set_cons_zero, List.set_cons_succ]
            refine relWalkG_cons rfl (fun x hC hd K hK => ?_) (fun v1 => ?_)
            · go_simp
              exact hK _ _ hC (Below.refl _ _) rfl
            simp only [Act.put, List.setIfInBounds_toArray, List.set_cons_zero, List.set_cons_succ]
            refine relWalkG_cons rfl (fun x hC hd K hK => ?_) (fun v2 => ?_)
            · obtain rfl : v0 = _ := hd 0 (by kernel_rfl)
              obtain rfl : v1 = _ := hd 1 (by kernel_rfl)
              go_simp
              go_at_call 20
              refine (hva x (HV.out.step hC).pa (HZ.out.step hC)).mono ?_
              rintro e w1 ⟨rfl, hb⟩; exact hK _ _ (bl_step hC hb) hb rfl
            simp only [Act.put, List.setIfInBounds_toArray, List.set_cons_zero, List.set_cons_succ]
            refine relWalkG_cons rfl (fun x hC hd K hK => ?_) (fun v3 => ?_)
            · obtain ⟨u0, u1, u2⟩ := (HV.out.step hC).cell
              go_simp
              exact hK _ _ hC (Below.refl _ _) rfl
            simp only [Act.put, List.setIfInBounds_toArray, List.set_cons_zero, List.set_cons_succ]
            refine relWalkG_cons rfl (fun x hC hd K hK => ?_) (fun v4 => ?_)
            · go_simp
              exact hK _ _ hC (Below.refl _ _) rfl
            simp only [Act.put, List.setIfInBounds_toArray, List.set_cons_zero, List.set_cons_succ]
            refine relWalkG_cons rfl (fun x hC hd K hK => ?_) (fun v5 => ?_)
            · obtain rfl : v3 = _ := hd 3 (by kernel_rfl)
              obtain rfl : v4 = _ := hd 4 (by kernel_rfl)
              go_simp
              go_at_call 21
              refine (hrv x (HV.out.step hC).pa (HZ.out.step hC)).mono ?_
              rintro e w1 ⟨rfl, hb⟩; exact hK _ _ (bl_step hC hb) hb rfl
            simp only [Act.put, List.setIfInBounds_toArray, List.set_cons_zero, List.set_cons_succ]
            refine relWalkG_cons rfl (fun x hC hd K hK => ?_) (fun v6 => ?_)
            · obtain rfl : v2 = _ := hd 2 (by kernel_rfl)
              obtain rfl : v5 = _ := hd 5 (by kernel_rfl)
              go_simp
              exact hK _ _ hC (Below.refl _ _) (by simp [SP.eq, GS])
            simp only [Act.put, List.setIfInBounds_toArray, List.set_cons_zero, List.set_cons_succ]
            refine relWalkG_cons rfl (fun x hC hd K hK => ?_) (fun v7 => ?_)
            · obtain rfl : v6 = _ := hd 6 (by kernel_rfl)
              go_simp
              exact hK _ _ hC (Below.refl _ _) rfl
            simp only [Act.put, List.setIfInBounds_toArray, List.set_cons_zero, List.set_cons_succ]
            refine relWalkG_cons rfl (fun x hC hd K hK => ?_) (fun v8 => ?_)
            · obtain ⟨u0, u1, u2⟩ := (HV.out.step hC).cell
              go_simp
              exact hK _ _ hC (Below.refl _ _) rfl
            simp only [Act.put, List.setIfInBounds_toArray, List.set_cons_zero, List.set_cons_succ]
            refine relWalkG_cons rfl (fun x hC hd K hK => ?_) (fun v9 => ?_)
            · obtain rfl : v8 = _ := hd 8 (by kernel_rfl)
              go_simp
              go_at_call 11
              refine (hsz x (HV.out.step hC).pa).mono ?_
              rintro e w1 ⟨rfl, hb⟩; exact hK _ _ (bl_step hC hb) hb rfl
            simp only [Act.put, List.setIfInBounds_toArray, List.set_cons_zero, List.set_cons_succ]
            refine relWalkG_cons rfl (fun x hC hd K hK => ?_) (fun v10 => ?_)
            · obtain ⟨u0, u1, u2⟩ := (HV.out.step hC).cell
              go_simp
              exact hK _ _ hC (Below.refl _ _) rfl
            simp only [Act.put, List.setIfInBounds_toArray, List.set_cons_zero, List.set_cons_succ]
            refine relWalkG_cons rfl (fun x hC hd K hK => ?_) (fun v11 => ?_)
            · obtain rfl : v10 = _ := hd 10 (by kernel_rfl)
              go_simp
              go_at_call 12
              refine (hrs x (HV.out.step hC).pa).mono ?_
              rintro e w1 ⟨rfl, hb⟩; exact hK _ _ (bl_step hC hb) hb rfl
            simp only [Act.put, List.setIfInBounds_toArray, List.set_cons_zero, List.set_cons_succ]
            refine relWalkG_cons rfl (fun x hC hd K hK => ?_) (fun v12 => ?_)
            · obtain rfl : v9 = _ := hd 9 (by kernel_rfl)
              obtain rfl : v11 = _ := hd 11 (by kernel_rfl)
              go_simp
              exact hK _ _ hC (Below.refl _ _) (by simp [SP.eq, GS])
            simp only [Act.put, List.setIfInBounds_toArray, List.set_cons_zero, List.set_cons_succ]
            refine relWalkG_cons rfl (fun x hC hd K hK => ?_) (fun v13 => ?_)
            · obtain rfl : v7 = _ := hd 7 (by kernel_rfl)
              obtain rfl : v12 = _ := hd 12 (by kernel_rfl)
              go_simp
              exact hK _ _ hC (Below.refl _ _) rfl
            simp only [Act.put, List.setIfInBounds_toArray, List.set_cons_zero, List.set_cons_succ]
            refine relWalkG_cons rfl (fun x hC hd K hK => ?_) (fun v14 => ?_)
            · obtain rfl : v13 = _ := hd 13 (by kernel_rfl)
              go_simp
              exact hK _ _ hC (Below.refl _ _) rfl
            simp only [Act.put, List.setIfInBounds_toArray, List.set_cons_zero, List.set_cons_succ]
            refine relWalkG_cons rfl (fun x hC hd K hK => ?_) (fun v15 => ?_)
            · obtain ⟨u0, u1, u2⟩ := (HV.out.step hC).cell
              go_simp
              exact hK _ _ hC (Below.refl _ _) rfl
            simp only [Act.put, List.setIfInBounds_toArray, List.set_cons_zero, List.set_cons_succ]
            refine relWalkG_cons rfl (fun x hC hd K hK => ?_) (fun v16 => ?_)
            · go_simp
              exact hK _ _ hC (Below.refl _ _) rfl
            simp only [Act.put, List.setIfInBounds_toArray, List.set_cons_zero, List.set_cons_succ]
            refine relWalkG_cons rfl (fun x hC hd K hK => ?_) (fun v17 => ?_)
            · go_simp
              exact hK _ _ hC (Below.refl _ _) rfl
            simp only [Act.put, List.setIfInBounds_toArray, List.set_cons_zero, List.set_cons_succ]
            refine relWalkG_cons rfl (fun x hC hd K hK => ?_) (fun v18 => ?_)
            · go_simp
              exact hK _ _ hC (Below.refl _ _) rfl
            simp only [Act.put, List.setIfInBounds_toArray, List.set_cons_zero, List.set_cons_succ]
            refine relWalkG_cons rfl (fun x hC hd K hK => ?_) (fun v19 => ?_)
            · obtain rfl : v15 = _ := hd 15 (by kernel_rfl)
              obtain rfl : v16 = _ := hd 16 (by kernel_rfl)
              obtain rfl : v17 = _ := hd 17 (by kernel_rfl)
              obtain rfl : v18 = _ := hd 18 (by kernel_rfl)
              go_simp
              go_at_call 13
              refine (hma x (HV.out.step hC).pa).mono ?_
              rintro e w1 ⟨v, rfl, hP, hb⟩; exact hK _ _ (bl_step hC hb) hb hP
            simp only [Act.put, List.setIfInBounds_toArray, List.set_cons_zero, List.set_cons_succ]
            refine relWalkG_cons rfl (fun x hC hd K hK => ?_) (fun v20 => ?_)
            · obtain ⟨u0, u1, u2⟩ := (HV.out.step hC).cell
              go_simp
              exact hK _ _ hC (Below.refl _ _) rfl
            simp only [Act.put, List.setIfInBounds_toArray, List.set_cons_zero, List.set_cons_succ]
            refine relWalkG_cons rfl (fun x hC hd K hK => ?_) (fun v21 => ?_)
            · go_simp
              exact hK _ _ hC (Below.refl _ _) rfl
            simp only [Act.put, List.setIfInBounds_toArray, List.set_cons_zero, List.set_cons_succ]
            refine relWalkG_cons rfl (fun x hC hd K hK => ?_) (fun v22 => ?_)
            · go_simp
              exact hK _ _ hC (Below.refl _ _) rfl
            simp only [Act.put, List.setIfInBounds_toArray, List.set_cons_zero, List.set_cons_succ]
            refine relWalkG_cons rfl (fun x hC hd K hK => ?_) (fun v23 => ?_)
            · go_simp
              exact hK _ _ hC (Below.refl _ _) rfl
            simp only [Act.put, List.setIfInBounds_toArray, List.set_cons_zero, List.set_cons_succ]
            refine relWalkG_cons rfl (fun x hC hd K hK => ?_) (fun v24 => ?_)
            · obtain rfl : v20 = _ := hd 20 (by kernel_rfl)
              obtain rfl : v21 = _ := hd 21 (by kernel_rfl)
              obtain rfl : v22 = _ := hd 22 (by kernel_rfl)
              obtain rfl : v23 = _ := hd 23 (by kernel_rfl)
              go_simp
              go_at_call 23
              refine (hrm x (HV.out.step hC).pa).mono ?_
              rintro e w1 ⟨v, rfl, hP, hb⟩; exact hK _ _ (bl_step hC hb) hb hP
            simp only [Act.put, List.setIfInBounds_toArray, List.set_cons_zero, List.set_cons_succ]
            refine relWalkG_cons rfl (fun x hC hd K hK => ?_) (fun v25 => ?_)
            · have g1 : PcA x v19 l := hd 19 (by kernel_rfl)
              have g2 : PcA x v24 l := hd 24 (by kernel_rfl)
              go_simp
              go_at_call 22
              refine (samePieces_w _ _ l x g1 g2).mono ?_
              rintro e w1 ⟨rfl, hb⟩; exact hK _ _ (bl_step hC hb) hb rfl
            simp only [Act.put, List.setIfInBounds_toArray, List.set_cons_zero, List.set_cons_succ]
            refine relWalkG_cons rfl (fun x hC hd K hK => ?_) (fun v26 => ?_)
            · obtain rfl : v14 = _ := hd 14 (by kernel_rfl)
              obtain rfl : v25 = _ := hd 25 (by kernel_rfl)
              go_simp
              exact hK _ _ hC (Below.refl _ _) rfl
            simp only [Act.put, List.setIfInBounds_toArray, List.set_cons_zero, List.set_cons_succ]
            refine relWalkG_cons rfl (fun x hC hd K hK => ?_) (fun v27 => ?_)
            · obtain rfl : v26 = _ := hd 26 (by kernel_rfl)
              go_simp
              exact hK _ _ hC (Below.refl _ _) rfl
            simp only [Act.put, List.setIfInBounds_toArray, List.set_cons_zero, List.set_cons_succ]
            refine relWalkG_cons rfl (fun x hC hd K hK => ?_) (fun v28 => ?_)
            · go_simp
              exact hK _ _ hC (Below.refl _ _) rfl
            simp only [Act.put, List.setIfInBounds_toArray, List.set_cons_zero, List.set_cons_succ]
            refine relWalkG_cons rfl (fun x hC hd K hK => ?_) (fun v29 => ?_)
            · go_simp
              exact hK _ _ hC (Below.refl _ _) rfl
            simp only [Act.put, List.setIfInBounds_toArray, List.set_cons_zero, List.set_cons_succ]
            refine relWalkG_cons rfl (fun x hC hd K hK => ?_) (fun v30 => ?_)
            · obtain rfl : v28 = _ := hd 28 (by kernel_rfl)
              obtain rfl : v29 = _ := hd 29 (by kernel_rfl)
              go_simp
              exact hK _ _ hC (Below.refl _ _) (by simp [SP.eq, GS])
            simp only [Act.put, List.setIfInBounds_toArray, List.set_cons_zero, List.set_cons_succ]
            refine relWalkG_cons rfl (fun x hC hd K hK => ?_) (fun v31 => ?_)
            · obtain rfl : v27 = _ := hd 27 (by kernel_rfl)
              obtain rfl : v30 = _ := hd 30 (by kernel_rfl)
              go_simp
              exact hK _ _ hC (Below.refl _ _) rfl
            simp only [Act.put, List.setIfInBounds_toArray, List.set_cons_zero, List.set_cons_succ]
            refine relWalkG_cons rfl (fun x hC hd K hK => ?_) (fun v32 => ?_)
            · obtain rfl : v31 = _ := hd 31 (by kernel_rfl)
              go_simp
              exact hK _ _ hC (Below.refl _ _) rfl
            simp only [Act.put, List.setIfInBounds_toArray, List.set_cons_zero, List.set_cons_succ]
            refine relWalkG_cons rfl (fun x hC hd K hK => ?_) (fun v33 => ?_)
            · go_simp
              exact hK _ _ hC (Below.refl _ _) rfl
            simp only [Act.put, List.setIfInBounds_toArray, List.set_cons_zero, List.set_cons_succ]
            refine relWalkG_cons rfl (fun x hC hd K hK => ?_) (fun v34 => ?_)
            · go_simp
              exact hK _ _ hC (Below.refl _ _) rfl
            simp only [Act.put, List.setIfInBounds_toArray, List.set_cons_zero, List.set_cons_succ]
            refine relWalkG_cons rfl (fun x hC hd K hK => ?_) (fun v35 => ?_)
            · obtain rfl : v33 = _ := hd 33 (by kernel_rfl)
              obtain rfl : v34 = _ := hd 34 (by kernel_rfl)
              go_simp
              exact hK _ _ hC (Below.refl _ _) (by simp [SP.eq, GS])
            simp only [Act.put, List.setIfInBounds_toArray, List.set_cons_zero, List.set_cons_succ]
            refine relWalkG_cons rfl (fun x hC hd K hK => ?_) (fun v36 => ?_)
            · obtain rfl : v32 = _ := hd 32 (by kernel_rfl)
              obtain rfl : v35 = _ := hd 35 (by kernel_rfl)
              go_simp
              exact hK _ _ hC (Below.refl _ _) rfl
            simp only [Act.put, List.setIfInBounds_toArray, List.set_cons_zero, List.set_cons_succ]
            refine relWalkG_cons rfl (fun x hC hd K hK => ?_) (fun v37 => ?_)
            · obtain rfl : v36 = _ := hd 36 (by kernel_rfl)
              go_simp
              exact hK _ _ hC (Below.refl _ _) rfl
            simp only [Act.put, List.setIfInBounds_toArray, List.set_cons_zero, List.set_cons_succ]
            refine relWalkG_cons rfl (fun x hC hd K hK => ?_) (fun v38 => ?_)
            · obtain ⟨u0, u1, u2⟩ := (HV.out.step hC).cell
              go_simp
              exact hK _ _ hC (Below.refl _ _) rfl
            simp only [Act.put, List.setIfInBounds_toArray, List.set_cons_zero, List.set_cons_succ]
            refine relWalkG_cons rfl (fun x hC hd K hK => ?_) (fun v39 => ?_)
            · obtain rfl : v38 = _ := hd 38 (by kernel_rfl)
              go_simp
              go_at_call 25
              refine (hdr x (HV.out.step hC).pa).mono ?_
              rintro e w1 ⟨v, rfl, hP, hb⟩; exact hK _ _ (bl_step hC hb) hb hP
            simp only [Act.put, List.setIfInBounds_toArray, List.set_cons_zero, List.set_cons_succ]
            refine relWalkG_cons rfl (fun x hC hd K hK => ?_) (fun v40 => ?_)
            · obtain ⟨u0, u1, u2⟩ := (HV.out.step hC).cell
              go_simp
              exact hK _ _ hC (Below.refl _ _) rfl
            simp only [Act.put, List.setIfInBounds_toArray, List.set_cons_zero, List.set_cons_succ]
            refine relWalkG_cons rfl (fun x hC hd K hK => ?_) (fun v41 => ?_)
            · obtain rfl : v40 = _ := hd 40 (by kernel_rfl)
              go_simp
              go_at_call 26
              refine (hrd x (HV.out.step hC).pa).mono ?_
              rintro e w1 ⟨v, rfl, hP, hb⟩; exact hK _ _ (bl_step hC hb) hb hP
            simp only [Act.put, List.setIfInBounds_toArray, List.set_cons_zero, List.set_cons_succ]
            refine relWalkG_cons rfl (fun x hC hd K hK => ?_) (fun v42 => ?_)
            · have g1 : ZAs x v39 dv := hd 39 (by kernel_rfl)
              have g2 : ZAs x v41 dv := hd 41 (by kernel_rfl)
              go_simp
              go_at_call 24
              refine (sameInts_w _ _ dv x g1 g2).mono ?_
              rintro e w1 ⟨rfl, hb⟩; exact hK _ _ (bl_step hC hb) hb rfl
            simp only [Act.put, List.setIfInBounds_toArray, List.set_cons_zero, List.set_cons_succ]
            refine relWalkG_cons rfl (fun x hC hd K hK => ?_) (fun v43 => ?_)
            · obtain rfl : v37 = _ := hd 37 (by kernel_rfl)
              obtain rfl : v42 = _ := hd 42 (by kernel_rfl)
              go_simp
              exact hK _ _ hC (Below.refl _ _) rfl
            simp only [Act.put, List.setIfInBounds_toArray, List.set_cons_zero, List.set_cons_succ]
            refine relWalkG_cons rfl (fun x hC hd K hK => ?_) (fun v44 => ?_)
            · obtain rfl : v43 = _ := hd 43 (by kernel_rfl)
              go_simp
              exact hK _ _ hC (Below.refl _ _) rfl
            simp only [Act.put, List.setIfInBounds_toArray, List.set_cons_zero, List.set_cons_succ]
            refine relWalkG_cons rfl (fun x hC hd K hK => ?_) (fun v45 => ?_)
            · go_simp
              go_at_call 14
              refine (awake_w x).mono ?_
              rintro e w1 ⟨rfl, hb⟩; exact hK _ _ (bl_step hC hb) hb rfl
            simp only [Act.put, List.setIfInBounds_toArray, List.set_cons_zero, List.set_cons_succ]
            refine relWalkG_cons rfl (fun x hC hd K hK => ?_) (fun v46 => ?_)
            · obtain rfl : v44 = _ := hd 44 (by kernel_rfl)
              obtain rfl : v45 = _ := hd 45 (by kernel_rfl)
              go_simp
              exact hK _ _ hC (Below.refl _ _) rfl
            simp only [Act.put, List.setIfInBounds_toArray, List.set_cons_zero, List.set_cons_succ]
            refine relWalkG_nil ?_
            intro x' hC hG
            obtain rfl : v46 = _ := hG 46 (by omega)
            clear hG
            have HB := Lib.hid (bl_step HV.out.below hC)
            go_wp2
            go_ret
            exact ⟨rfl, HB.out⟩

end Go.Proofs.Ytdeggdbaeeamiaa
