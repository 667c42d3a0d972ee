/-
  The law VolumeCovers: plain part and walk.
-/
import Derived.Test.YtdeggdbaeeamiaaVolC
namespace Go.Proofs.Ytdeggdbaeeamiaa
open Go.RowKit
set_option linter.unusedVariables false
set_option linter.unusedSimpArgs false

theorem made_range : madeL.all (fun x => decide (1 ≤ x.2.2.length ∧ x.2.2.length ≤ 3)) = true := by kernel_rfl
theorem made_len {x : VolT} (h : x ∈ madeL) : 1 ≤ x.2.2.length ∧ x.2.2.length ≤ 3 := by
  have := List.all_eq_true.1 made_range x h
  simpa only [decide_eq_true_eq] using this
/-- Pieces one behind the other. -/
def Chain : List Pc → Int → Int → Prop
  | [], a, e => a = e
  | (d, s, c, f) :: l, a, e => f = a ∧ 1 ≤ c ∧ c ≤ 128 ∧ Chain l (a + c) e
theorem chain_le : ∀ {l : List Pc} {a e : Int}, Chain l a e → a ≤ e
  | [], a, e, h => Int.le_of_eq h
  | (d, s, c, f) :: l, a, e, ⟨_, h1, _, h2⟩ => by have := chain_le h2; omega
theorem drop_cons {α : Type} {l : List α} {k : Nat} {x : α} (h : l[k]? = some x) : l.drop k = x :: l.drop (k + 1) := by
  obtain ⟨hk, he⟩ := List.getElem?_eq_some_iff.1 h
  rw [List.drop_eq_getElem_cons hk, he]
theorem runP_chain {kd ch : Int} {L : List Seg} {s c : Int} (hs : soundB kd ch L = true) (hk : kd ≠ 3) (s0 : 0 ≤ s) (s1 : s + c ≤ sizeV kd L) : ∀ (f : Nat) (off : Int), 0 ≤ off → off ≤ c → c - off ≤ f → Chain (runP kd ch L s c f off) off c
  | 0, off, h0, h1, h2 => by show off = c; omega
  | f + 1, off, h0, h1, h2 => by
    simp only [runP]
    by_cases hlt : off < c
    · rw [if_pos hlt]
      obtain ⟨r1, r2, r3⟩ := plc_range (s := s + off) hs hk (by omega) (by omega)
      refine ⟨rfl, by omega, by omega, runP_chain hs hk s0 s1 f _ (by omega) (by omega) (by omega)⟩
    · rw [if_neg hlt]
      show off = c; omega
theorem mirP_none (s c : Int) : ∀ (L : List Seg) (k : Nat), 1 ≤ k → mirP s c 0 L k = []
  | [], _, _ => rfl
  | x :: l, k, hk => by
    simp only [mirP]
    rw [if_neg (by omega), mirP_none s c l (k + 1) (by omega)]
    rfl
theorem mirP_zero (s c : Int) {L : List Seg} (h : 1 ≤ L.length) : mirP s c 0 L 0 = [((at0 L 0).1, (at0 L 0).2.1 + s, c, 0)] := by
  match L, h with
  | x :: l, _ =>
    simp only [mirP]
    rw [if_pos (.inl rfl), mirP_none s c l 1 (by omega)]
    rfl
theorem ok_mk {kd ch : Int} {L : List Seg} {s c : Int} (h1 : 1 ≤ c) (h2 : 0 ≤ s) (h3 : s < szB kd ch L) (h4 : c ≤ szB kd ch L - s) : okB kd ch L s c = true := by simp [okB]; omega
theorem covers {kd ch : Int} {L : List Seg} {s c : Int} (hok : okB kd ch L s c = true) : Chain (mapP kd ch L s c 0) 0 c ∧ (kd = 3 → (mapP kd ch L s c 0).length = 1) := by
  obtain ⟨hs, hz, h1, h2, h3, h4, h5⟩ := ok_sound hok
  unfold mapP
  rw [hok, if_pos rfl]
  by_cases hk : kd = 3
  · rw [if_pos hk, mirP_zero s c (sound_parts hs).1]
    exact ⟨⟨rfl, h1, by omega, by show (0 : Int) + c = c; omega⟩, fun _ => rfl⟩
  · rw [if_neg hk]
    exact ⟨runP_chain hs hk h2 (by omega) _ _ (by omega) (by omega) (by omega), fun h => absurd h hk⟩
theorem map_zero {kd ch : Int} {L : List Seg} (h : szB kd ch L = 0) (c cp : Int) : mapP kd ch L 0 c cp = [] := mapP_not (by simp [okB]; omega)
theorem map_over {kd ch : Int} {L : List Seg} {s cp : Int} : mapP kd ch L s (szB kd ch L - s + 1) cp = [] := mapP_not (by simp [okB]; omega)

set_option maxRecDepth 100000 in
set_option maxHeartbeats 2000000 in
theorem volumeCovers_walk (n sector count : Int) (w : World) :
    Calls Try.prog 3 #[.int .i64 n, .int .i64 sector, .int .i64 count] w fun e w' => e = .returned (.bool true) ∧ Below w.heap.size w w' := by
  go_enter Try.func3, Try.ntmps3
  go_upto_region 1 with fail
  go_cut [7] (fun s7 wx => ∃ V kd ch A L cap, s7 = .pointer (some ⟨V, 0, none⟩) ∧ L.length ≤ cap ∧ L.length ≤ maxLen ∧ VS w V kd ch A L cap wx)
  case first =>
    go_wp2_with (go_at_call 10; (with_reducible refine Calls.mono (made_w _ _) ?_); rintro e w1 ⟨kd, ch, A, L, cap, rfl, hA, hc, hm, hb1⟩)
    go_meet
    case rel => exact ⟨_, kd, ch, A, L, cap, rfl, hc, by have := (made_len hm).2; unfold maxLen; simp only at this; omega, heap_alloc_new _ _, hA.alloc _, bl_alloc hb1 _⟩
  case rest =>
    obtain ⟨V, kd, ch, A, L, cap, rfl, hc, hl, hV⟩ := hcut
    have csz := fun w' (hp : PA w' A L) => Size_w kd ch A L cap w' hp hl hc
    have crs := fun w' (hp : PA w' A L) => rSize_w kd ch A L cap w' hp hl
    have ⟨z0, z1⟩ := szB_range kd ch L
    have hmap := fun s c w' (hp : PA w' A L) => map_w kd ch A L cap s c 0 w' hp hl hc
    have HOk := Lib.hid (fun s c (h1 : 1 ≤ c) (h2 : 0 ≤ s) (h3 : s < szB kd ch L) (h4 : c ≤ szB kd ch L - s) => covers (ok_mk h1 h2 h3 h4))
    have HZ := Lib.hid (fun h c cp => map_zero (kd := kd) (ch := ch) (L := L) h c cp)
    have HO := Lib.hid (fun s cp => map_over (kd := kd) (ch := ch) (L := L) (s := s) (cp := cp))
    generalize szB kd ch L = size at csz crs z0 z1 HOk HZ HO
    have HV := Lib.hid hV
    obtain ⟨v0, v1, v2⟩ := hV.cell
    clear hV
    go_upto_region 5 with (first
      | (go_at_call 11; (with_reducible refine Calls.mono (csz _ HV.out.pa) ?_); rintro e w1 ⟨rfl, hb1⟩; have HV1 := Lib.hid (HV.out.step hb1); clear v0 v1 v2; obtain ⟨v0, v1, v2⟩ := HV1.out.cell)
      | (go_at_call 12; (with_reducible refine Calls.mono (crs _ HV1.out.pa) ?_); rintro e w2 ⟨rfl, hb2⟩; have HV2 := Lib.hid (HV1.out.step hb2); clear v0 v1 v2; obtain ⟨v0, v1, v2⟩ := HV2.out.cell))
    clear csz crs
    by_cases hz : size = 0
    · subst hz
      have hm0 := hmap 0 1
      rw [HZ.out rfl 1 0] at hm0
      clear hmap
      go_wp2_with (first
        | (go_at_call 13; (with_reducible refine Calls.mono (hm0 _ HV2.out.pa) ?_); rintro e w3 ⟨v, rfl, ⟨B, cap3, rfl, _⟩, hb3⟩)
        | (go_at_call 14; (with_reducible refine Calls.mono (awake_w _) ?_); rintro e w9 ⟨rfl, hb9⟩))
      go_ret
      exact ⟨rfl, bl_step (bl_step HV2.out.below hb3) hb9⟩
    · have ez : (size == 0) = false := by simp [hz]
      have rs := fun w => round_w sector size w (by omega) (by omega)
      have ⟨s0, s1⟩ := cutI_range sector size (by omega)
      generalize cutI sector size = s at rs s0 s1
      have rc := fun w => round_w count (size - s) w (by omega) (by omega)
      have ⟨c0, c1⟩ := cutI_range count (size - s) (by omega)
      generalize cutI count (size - s) = c at rc c0 c1
      have hm := hmap s (1 + c)
      have hm2 := hmap s (size - s + 1)
      rw [HO.out s 0] at hm2
      obtain ⟨hch, hlen⟩ := HOk.out s (1 + c) (by omega) s0 s1 (by omega)
      generalize mapP kd ch L s (1 + c) 0 = l at hm hch hlen
      have Hch := Lib.hid hch
      have Hlen := Lib.hid hlen
      clear hmap hch hlen hz
      go_upto_region 10 with (first
        | (go_at_call 15; (with_reducible refine Calls.mono (rs _) ?_); rintro e w3 ⟨rfl, rfl⟩)
        | (go_at_call 15; (with_reducible refine Calls.mono (rc _) ?_); rintro e w3 ⟨rfl, rfl⟩)
        | (go_at_call 13; (with_reducible refine Calls.mono (hm _ HV2.out.pa) ?_); rintro e w4 ⟨v, rfl, hP, hb4⟩; have HV4 := Lib.hid (HV2.out.step hb4); clear v0 v1 v2; obtain ⟨v0, v1, v2⟩ := HV4.out.cell))
      obtain ⟨B, cap4, rfl, hlm, hPR⟩ := hP.parts
      unfold maxLen at hlm
      have HPR := Lib.hid hPR
      have HW := Lib.hid HV4.out.below
      have HPA := Lib.hid HV4.out.pa
      clear hPR hP HV HV1 HV2
      go_wp2
      go_loop [12, 13] (fun s12 s13 => ∃ (k : Nat) (at_ : Int), k ≤ l.length ∧ s13 = .int .i64 k ∧ s12 = .int .i64 at_ ∧ 0 ≤ at_ ∧ Chain (l.drop k) at_ (1 + c)) (fun _ s13 => l.length - (intOf s13).toNat)
      case atStart => exact ⟨0, 0, by omega, rfl, rfl, by omega, by simpa using Hch.out⟩
      case round =>
        obtain ⟨k, at_, hk, rfl, rfl, a0, hc'⟩ := hrel
        have a1 := chain_le hc'
        by_cases hlt : k < l.length
        · obtain ⟨b, d, s', c', f, rfl, lb, he, p0, p1, p2, p3⟩ := HPR.out.at_ hlt
          rw [drop_cons he] at hc'
          obtain ⟨rfl, q1, q2, hc2⟩ := hc'
          have q3 := chain_le hc2
          have Hc2 := Lib.hid hc2
          have i0 : (0 : Int) ≤ (k : Int) := by omega
          have i1 : (k : Int) < (l.length : Int) := by omega
          clear he hc2
          go_wp2
          go_round
          case rel => exact ⟨k + 1, _, by omega, by go_num, rfl, by omega, Hc2.out⟩
          case measure => simp [intOf]; omega
        · obtain rfl : k = l.length := by omega
          rw [List.drop_length] at hc'
          have hat : at_ = 1 + c := hc'
          clear hc' a1
          subst hat
          by_cases k3 : kd = 3
          · have e3 : (kd != 3) = false := by simp [k3]
            have e4 : ((l.length : Int) == 1) = true := by rw [Hlen.out k3]; rfl
            clear k3
            go_wp2_with (first
              | (go_at_call 13; (with_reducible refine Calls.mono (hm2 _ HPA.out) ?_); rintro e w5 ⟨v, rfl, ⟨B5, cap5, rfl, _⟩, hb5⟩)
              | (go_at_call 14; (with_reducible refine Calls.mono (awake_w _) ?_); rintro e w9 ⟨rfl, hb9⟩))
            go_ret
            exact ⟨rfl, bl_step (bl_step HW.out hb5) hb9⟩
          · have e3 : (kd != 3) = true := by simp [k3]
            clear k3
            go_wp2_with (first
              | (go_at_call 13; (with_reducible refine Calls.mono (hm2 _ HPA.out) ?_); rintro e w5 ⟨v, rfl, ⟨B5, cap5, rfl, _⟩, hb5⟩)
              | (go_at_call 14; (with_reducible refine Calls.mono (awake_w _) ?_); rintro e w9 ⟨rfl, hb9⟩))
            go_ret
            exact ⟨rfl, bl_step (bl_step HW.out hb5) hb9⟩

end Go.Proofs.Ytdeggdbaeeamiaa
