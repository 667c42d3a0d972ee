/-
  The law VolumeDiffers: plain part and walk.
-/
import Derived.Test.YtdeggdbaeeamiaaVolD
import Derived.Test.YtdeggdbaeeamiaaSP
namespace Go.Proofs.Ytdeggdbaeeamiaa
open Go.RowKit
set_option linter.unusedVariables false
set_option linter.unusedSimpArgs false

def SP.pc (l : List Pc) : SP := ⟨fun v w => PcA w v l, fun _ _ _ hb h => h.step hb⟩
def apart (a b : Pc) : Bool := !(a.1 == b.1 && a.2.1 == b.2.1)
def diffB (x : VolT) : Bool :=
  (List.range (szB x.1 x.2.1 x.2.2).toNat).all fun s => !(mapP x.1 x.2.1 x.2.2 s 1 (-1)).isEmpty &&
    (List.range (szB x.1 x.2.1 x.2.2).toNat).all fun t => s == t || (mapP x.1 x.2.1 x.2.2 s 1 (-1)).all fun a => (mapP x.1 x.2.1 x.2.2 t 1 (-1)).all (apart a)
theorem diff_all : madeL.all diffB = true := by kernel_rfl
theorem differs {kd ch : Int} {L : List Seg} (hm : (kd, ch, L) ∈ madeL) {x y : Int} (x0 : 0 ≤ x) (x1 : x < szB kd ch L) (y0 : 0 ≤ y) (y1 : y < szB kd ch L) :
    mapP kd ch L x 1 (-1) ≠ [] ∧ mapP kd ch L y 1 (-1) ≠ [] ∧ (x ≠ y → ∀ a ∈ mapP kd ch L x 1 (-1), ∀ b ∈ mapP kd ch L y 1 (-1), apart a b = true) := by
  obtain ⟨s, rfl⟩ := Int.eq_ofNat_of_zero_le x0
  obtain ⟨t, rfl⟩ := Int.eq_ofNat_of_zero_le y0
  have h := List.all_eq_true.1 diff_all _ hm
  simp only [diffB] at h
  have h1 := List.all_eq_true.1 h s (List.mem_range.2 (by omega))
  have h2 := List.all_eq_true.1 h t (List.mem_range.2 (by omega))
  simp only [Bool.and_eq_true, Bool.not_eq_true', List.isEmpty_eq_false_iff] at h1 h2
  refine ⟨h1.1, h2.1, fun hne a ha b hb => ?_⟩
  have h3 := List.all_eq_true.1 h1.2 t (List.mem_range.2 (by omega))
  simp only [Bool.or_eq_true, beq_iff_eq] at h3
  rcases h3 with h3 | h3
  · exact absurd (by omega) hne
  · exact List.all_eq_true.1 (List.all_eq_true.1 h3 a ha) b hb

set_option maxRecDepth 100000 in
set_option maxHeartbeats 2000000 in
theorem volumeDiffers_walk (n a b : Int) (w : World) :
    Calls Try.prog 4 #[.int .i64 n, .int .i64 a, .int .i64 b] w fun e w' => e = .returned (.bool true) ∧ Below w.heap.size w w' := by
  go_enter Try.func4, Try.ntmps4
  go_upto_region 1 with fail
  go_cut [7] (fun s7 wx => ∃ V kd ch A L cap, s7 = .pointer (some ⟨V, 0, none⟩) ∧ L.length ≤ cap ∧ (kd, ch, L) ∈ madeL ∧ VS w V kd ch A L cap wx)
  case first =>
    go_wp2_with (go_at_call 10; (with_reducible refine Calls.mono (made_w _ _) ?_); rintro e w1 ⟨kd, ch, A, L, cap, rfl, hA, hc, hm, hb1⟩)
    go_meet
    case rel => exact ⟨_, kd, ch, A, L, cap, rfl, hc, hm, heap_alloc_new _ _, hA.alloc _, bl_alloc hb1 _⟩
  case rest =>
    obtain ⟨V, kd, ch, A, L, cap, rfl, hc, hmem, hV⟩ := hcut
    have hl : L.length ≤ maxLen := by have := (made_len hmem).2; unfold maxLen; simp only at this; omega
    have crs := fun w' (hp : PA w' A L) => rSize_w kd ch A L cap w' hp hl
    have ⟨z0, z1⟩ := szB_range kd ch L
    have hmap := fun s w' (hp : PA w' A L) => map_w kd ch A L cap s 1 (-1) w' hp hl hc
    have HD := Lib.hid (fun x y => differs (x := x) (y := y) hmem)
    generalize szB kd ch L = size at crs z0 z1 HD
    have HV := Lib.hid hV
    obtain ⟨v0, v1, v2⟩ := hV.cell
    clear hV hmem
    go_upto_region 3 with (go_at_call 12; (with_reducible refine Calls.mono (crs _ HV.out.pa) ?_); rintro e w2 ⟨rfl, hb2⟩; have HV2 := Lib.hid (HV.out.step hb2))
    clear crs HV v0 v1 v2
    by_cases hz : size < 2
    · clear hmap
      go_wp2_with (go_at_call 14; (with_reducible refine Calls.mono (awake_w _) ?_); rintro e w9 ⟨rfl, hb9⟩)
      go_ret
      exact ⟨rfl, bl_step HV2.out.below hb9⟩
    · have rx := fun w => round_w a size w (by omega) (by omega)
      have ⟨x0, x1⟩ := cutI_range a size (by omega)
      generalize cutI a size = x at rx x0 x1
      have ry := fun w => round_w b size w (by omega) (by omega)
      have ⟨y0, y1⟩ := cutI_range b size (by omega)
      generalize cutI b size = y at ry y0 y1
      obtain ⟨n1, n2, hap⟩ := HD.out x y x0 x1 y0 y1
      have hm1 := hmap x
      have hm2 := hmap y
      generalize mapP kd ch L x 1 (-1) = l1 at hm1 n1 hap
      generalize mapP kd ch L y 1 (-1) = l2 at hm2 n2 hap
      have Hap := Lib.hid hap
      have n1' : 0 < l1.length := List.length_pos_iff.2 n1
      have n2' : 0 < l2.length := List.length_pos_iff.2 n2
      clear hmap hap n1 n2 HD
      have HV := HV2
      clear HV2
      go_upto_region 6 with (first
        | (go_at_call 15; (with_reducible refine Calls.mono (rx _) ?_); rintro e w3 ⟨rfl, rfl⟩)
        | (go_at_call 15; (with_reducible refine Calls.mono (ry _) ?_); rintro e w3 ⟨rfl, rfl⟩))
      go_cut [11, 12] (fun s11 s12 wx => PcA wx s11 l1 ∧ PcA wx s12 l2 ∧ Below w.heap.size w wx)
      case first =>
        refine wp_region_sp 6 84 [SP.eq (volV kd ch A L.length cap), SP.eq (.int .i64 x), SP.pc l1, SP.eq (volV kd ch A L.length cap), SP.eq (.int .i64 y), SP.pc l2] (by kernel_rfl) (by kernel_rfl) rfl ?_
        simp only [List.take_succ_cons, List.take_zero, List.drop_succ_cons, List.drop_zero]
        refine relWalk_cons (fun x hC hd K hK => ?_) (fun v0 => ?_)
        · obtain ⟨u0, u1, u2⟩ := (HV.out.step hC).cell
          go_simp
          exact hK _ _ hC (Below.refl _ _) rfl
        simp only [Act.put, List.setIfInBounds_toArray, List.set_cons_zero, List.set_cons_succ]
        refine relWalk_cons (fun x hC hd K hK => ?_) (fun v1 => ?_)
        · go_simp
          exact hK _ _ hC (Below.refl _ _) rfl
        simp only [Act.put, List.setIfInBounds_toArray, List.set_cons_zero, List.set_cons_succ]
        refine relWalk_cons (fun x hC hd K hK => ?_) (fun v2 => ?_)
        · obtain rfl : v0 = _ := hd 0 (by kernel_rfl)
          obtain rfl : v1 = _ := hd 1 (by kernel_rfl)
          go_simp
          go_at_call 13
          refine (hm1 x (HV.out.step hC).pa).mono ?_
          rintro e w1 ⟨v, rfl, hP, hb⟩
          exact hK _ _ (bl_step hC hb) hb hP
        simp only [Act.put, List.setIfInBounds_toArray, List.set_cons_zero, List.set_cons_succ]
        refine relWalk_cons (fun x hC hd K hK => ?_) (fun v3 => ?_)
        · obtain ⟨u0, u1, u2⟩ := (HV.out.step hC).cell
          go_simp
          exact hK _ _ hC (Below.refl _ _) rfl
        simp only [Act.put, List.setIfInBounds_toArray, List.set_cons_zero, List.set_cons_succ]
        refine relWalk_cons (fun x hC hd K hK => ?_) (fun v4 => ?_)
        · go_simp
          exact hK _ _ hC (Below.refl _ _) rfl
        simp only [Act.put, List.setIfInBounds_toArray, List.set_cons_zero, List.set_cons_succ]
        refine relWalk_cons (fun x hC hd K hK => ?_) (fun v5 => ?_)
        · obtain rfl : v3 = _ := hd 3 (by kernel_rfl)
          obtain rfl : v4 = _ := hd 4 (by kernel_rfl)
          go_simp
          go_at_call 13
          refine (hm2 x (HV.out.step hC).pa).mono ?_
          rintro e w1 ⟨v, rfl, hP, hb⟩
          exact hK _ _ (bl_step hC hb) hb hP
        simp only [Act.put, List.setIfInBounds_toArray, List.set_cons_zero, List.set_cons_succ]
        refine relWalk_nil ?_
        intro x' hC hG
        have g2 : PcA x' v2 l1 := hG 2 (by omega)
        have g5 : PcA x' v5 l2 := hG 5 (by omega)
        have HG2 := Lib.hid g2
        have HG5 := Lib.hid g5
        clear hG g2 g5
        go_wp2
        go_meet
        case rel => exact ⟨HG2.out, HG5.out, bl_step HV.out.below hC⟩
      case rest =>
        clear HV hm1 hm2
        obtain ⟨hP1, hP2, hB⟩ := hcut
        obtain ⟨A1, cap1, hv1, m1, hR1⟩ := hP1.parts
        obtain ⟨A2, cap2, hv2, m2, hR2⟩ := hP2.parts
        clear hP1 hP2
        subst hv1
        subst hv2
        unfold maxLen at m1 m2
        have f1 : ((l1.length : Int) == 0) = false := beq_eq_false_iff_ne.2 (by omega)
        have f2 : ((l2.length : Int) == 0) = false := beq_eq_false_iff_ne.2 (by omega)
        have HR1 := Lib.hid hR1
        have HR2 := Lib.hid hR2
        clear hR1 hR2
        go_wp2
        go_loopw [13] (fun s13 wx => ∃ i : Nat, i ≤ l1.length ∧ s13 = .int .i64 i ∧ PcR wx A1 l1 ∧ PcR wx A2 l2 ∧ Below w.heap.size w wx) (fun s13 _ => l1.length - (intOf s13).toNat)
        case atStart => exact ⟨0, by omega, rfl, HR1.out, HR2.out, hB⟩
        case round =>
          clear HR1 HR2 hB
          obtain ⟨i, hi, rfl, hR1, hR2, hB⟩ := hrel
          have HR1 := Lib.hid hR1
          have HR2 := Lib.hid hR2
          clear hR1 hR2
          by_cases hlt : i < l1.length
          · have i0 : (0 : Int) ≤ (i : Int) := by omega
            have i1 : (i : Int) < (l1.length : Int) := by omega
            go_wp2
            go_loopw [14] (fun s14 wx => ∃ k : Nat, k ≤ l2.length ∧ s14 = .int .i64 k ∧ PcR wx A1 l1 ∧ PcR wx A2 l2 ∧ Below w.heap.size w wx) (fun s14 _ => l2.length - (intOf s14).toNat)
            case atStart => exact ⟨0, by omega, rfl, HR1.out, HR2.out, hB⟩
            case round =>
              clear HR1 HR2 hB
              obtain ⟨k, hk, rfl, hR1, hR2, hB⟩ := hrel
              by_cases hkl : k < l2.length
              · obtain ⟨b1, d, s, c, f, rfl, lb, he, p0, p1, p2, p3⟩ := hR1.at_ hlt
                obtain ⟨b2, d', s', c', f', rfl, lb', he', q0, q1, q2, q3⟩ := hR2.at_ hkl
                have HR1 := Lib.hid hR1
                have HR2 := Lib.hid hR2
                have k0 : (0 : Int) ≤ (k : Int) := by omega
                have k1 : (k : Int) < (l2.length : Int) := by omega
                have hcase : (x != y) = false ∨ ((x != y) = true ∧ ((d == d') = false ∨ ((d == d') = true ∧ (s == s') = false))) := by
                  by_cases hxy : x = y
                  · exact .inl (by simp [hxy])
                  · refine .inr ⟨by simp [hxy], ?_⟩
                    have hap := Hap.out hxy _ (List.mem_of_getElem? he) _ (List.mem_of_getElem? he')
                    simp only [apart, Bool.not_eq_true', Bool.and_eq_false_iff] at hap
                    cases hd : (d == d') with
                    | false => exact .inl rfl
                    | true => rw [hd] at hap; exact .inr ⟨rfl, by simpa using hap⟩
                clear he he' hR1 hR2
                rcases hcase with g1 | ⟨g1, g2 | ⟨g2, g3⟩⟩
                all_goals
                  go_upto_region 15 with fail
                  go_quiet (fail)
                  go_wp2
                  go_roundw
                  case rel => exact ⟨k + 1, by omega, by go_num, HR1.out.drewN _, HR2.out.drewN _, below_drewN hB _⟩
                  case measure => simp [intOf]; omega
              · obtain rfl : k = l2.length := by omega
                have HR1 := Lib.hid hR1
                have HR2 := Lib.hid hR2
                clear hR1 hR2
                go_wp2
                go_roundw
                case rel => exact ⟨i + 1, by omega, by go_num, HR1.out, HR2.out, hB⟩
                case measure => simp [intOf]; omega
          · obtain rfl : i = l1.length := by omega
            go_wp2_with (go_at_call 14; (with_reducible refine Calls.mono (awake_w _) ?_); rintro e w9 ⟨rfl, hb9⟩)
            go_ret
            exact ⟨rfl, bl_step hB hb9⟩

end Go.Proofs.Ytdeggdbaeeamiaa
