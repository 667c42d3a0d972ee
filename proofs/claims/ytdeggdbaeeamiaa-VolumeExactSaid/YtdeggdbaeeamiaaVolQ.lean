/-
  The reference's Map, by contract.
-/
import Derived.Test.YtdeggdbaeeamiaaVolP
import Derived.Deep.CutRange
namespace Go.Proofs.Ytdeggdbaeeamiaa
open Go.RowKit
set_option linter.unusedVariables false
set_option linter.unusedSimpArgs false

theorem mirP_out (s c cp : Int) : ∀ (L : List Seg) (k : Nat), (∀ j : Nat, k ≤ j → j < k + L.length → cp ≠ (j : Int)) → cp ≠ -1 → mirP s c cp L k = []
  | [], _, _, _ => rfl
  | x :: l, k, h, h1 => by
    simp only [mirP]
    rw [if_neg (by intro hc; rcases hc with hc | hc; exact h k (Nat.le_refl _) (by simp) hc; exact h1 hc), mirP_out s c cp l (k + 1) (fun j a b => h j (by omega) (by simp only [List.length_cons]; omega)) h1]
    rfl
theorem own_step4 {w w' : World} {B sz n : Nat} {t : TypeId} {v : Value} {xs : List Value} (h : w.ownsRow B t sz v n xs) (hb : Below w.heap.size w w') : w'.ownsRow B t sz v n xs := own_step h hb
set_option maxRecDepth 100000 in
set_option maxHeartbeats 4000000 in
theorem rMap_w (kd ch : Int) (A : Option Addr) (L : List Seg) (cap : Nat) (s c cp : Int) (w : World) (h : PA w A L) (hl : L.length ≤ maxLen) (hc : L.length ≤ cap) :
    Calls Try.prog 23 #[volV kd ch A L.length cap, .int .i64 s, .int .i64 c, .int .i64 cp] w (RetPc (mapP kd ch L s c cp) w) := by
  have hl' := hl
  unfold maxLen at hl'
  have HV := Lib.hid (VS.new (kd := kd) (ch := ch) (cap := cap) h)
  have hsz := fun w' (hp : PA w' A L) => rSize_w kd ch A L cap w' hp hl
  have ⟨z0, z1⟩ := szB_range kd ch L
  obtain ⟨n, hn⟩ : ∃ n, szB kd ch L = n := ⟨_, rfl⟩
  rw [hn] at z0 z1
  simp only [hn] at hsz
  have Hn := Lib.hid hn
  have H0 := Lib.hid h
  clear h hn
  go_enter Try.func23, Try.ntmps23
  go_upto_region 1 with fail
  go_cut [9] (fun s9 wx => s9 = .int .i64 n ∧ VS w w.heap.size kd ch A L cap wx)
  case first =>
    go_wp2_with (go_at_call 12; (with_reducible refine Calls.mono (hsz _ HV.out.pa) ?_); rintro e w1 ⟨rfl, hb1⟩)
    go_meet
    case rel => exact ⟨rfl, HV.out.step hb1⟩
  case rest =>
    clear HV hsz
    obtain ⟨rfl, hV⟩ := hcut
    obtain ⟨W, rfl⟩ : ∃ W : World, W = wc := ⟨_, rfl⟩
    have HV := Lib.hid hV
    clear hV
    go_upto_region 2 with fail
    go_cut [38] (fun s38 wx => ∃ t, s38 = .bool t ∧ (!okB kd ch L s c) = t ∧ W = wx)
    case first =>
      by_cases q2 : s < 0
      · have Hok := Lib.hid (show (!okB kd ch L s c) = true by simp [okB]; omega)
        go_wp2
        go_meet
        case rel => exact ⟨_, rfl, Hok.out, rfl⟩
      · by_cases q3 : n ≤ s
        · have Hok := Lib.hid (show (!okB kd ch L s c) = true by rw [← Hn.out] at q3; simp [okB]; omega)
          go_wp2
          go_meet
          case rel => exact ⟨_, rfl, Hok.out, rfl⟩
        · by_cases q1 : c < 1
          · have Hok := Lib.hid (show (!okB kd ch L s c) = true by simp [okB]; omega)
            go_wp2
            go_meet
            case rel => exact ⟨_, rfl, Hok.out, rfl⟩
          · by_cases q4 : n - s < c
            · have Hok := Lib.hid (show (!okB kd ch L s c) = true by rw [← Hn.out] at q4; simp [okB]; omega)
              go_wp2
              go_meet
              case rel => exact ⟨_, rfl, Hok.out, rfl⟩
            · have Hok := Lib.hid (show (!okB kd ch L s c) = false by rw [← Hn.out] at q3 q4; simp [okB]; omega)
              go_wp2
              go_meet
              case rel => exact ⟨_, rfl, Hok.out, rfl⟩
    case rest =>
      obtain ⟨t, rfl, ht, rfl⟩ := hcut
      cases t with
      | true =>
        have Hm := Lib.hid (mapP_not (cp := cp) (show okB kd ch L s c = false by simpa using ht))
        clear ht
        go_wp2
        go_ret
        exact ⟨_, rfl, by rw [Hm.out]; exact ⟨none, 0, rfl, by simp, .inl rfl⟩, HV.out.below⟩
      | false =>
        have hok : okB kd ch L s c = true := by simpa using ht
        obtain ⟨hso, hsn, o1, o2, o3, o4, o5⟩ := ok_sound hok
        obtain ⟨h1, h4, ha, _⟩ := sound_parts hso
        have HA := Lib.hid ha
        have Hso := Lib.hid hso
        have Hok := Lib.hid hok
        generalize hzz : sizeV kd L = z at o3 o4 o5 hsn
        have Hz := Lib.hid hzz
        clear ht ha hso hok hzz hsn
        obtain ⟨i0, hi, hz0, hz1, hz2⟩ := info_parts pc_info
        obtain ⟨v0, v1, v2⟩ := HV.out.cell
        by_cases k3 : kd = 3
        · have e3 : (kd == 3) = true := by simp [k3]
          have Hmap := Lib.hid (show mapP kd ch L s c cp = mirP s c cp (L.take L.length) 0 by unfold mapP; rw [Hok.out, if_pos rfl, if_pos k3, List.take_length])
          clear k3
          by_cases q1 : cp < -1
          · have Hm := Lib.hid (show mapP kd ch L s c cp = [] by rw [Hmap.out, mirP_out s c cp _ 0 (fun j _ _ => by omega) (by omega)])
            go_wp2
            go_ret
            exact ⟨_, rfl, by rw [Hm.out]; exact ⟨none, 0, rfl, by simp, .inl rfl⟩, HV.out.below⟩
          · by_cases q2 : (L.length : Int) ≤ cp
            · have Hm := Lib.hid (show mapP kd ch L s c cp = [] by rw [Hmap.out, mirP_out s c cp _ 0 (fun j _ hj => by rw [List.take_length] at hj; omega) (by omega)])
              go_wp2
              go_ret
              exact ⟨_, rfl, by rw [Hm.out]; exact ⟨none, 0, rfl, by simp, .inl rfl⟩, HV.out.below⟩
            · go_wp2
              clear v0 v1 v2
              go_loopw [10, 11] (fun s10 s11 wx => ∃ k : Nat, k ≤ L.length ∧ s11 = .int .i64 k ∧ wx.ownsRow (w.heap.size + 1) 32 4 s10 (mirP s c cp (L.take k) 0).length (pcs (mirP s c cp (L.take k) 0)) ∧ VS w w.heap.size kd ch A L cap wx) (fun _ s11 _ => L.length - (intOf s11).toNat)
              case atStart => exact ⟨0, by omega, rfl, World.ownsRow_nil _ _ _ _, HV.out⟩
              case round =>
                clear HV
                obtain ⟨k, hk, rfl, hown, hV⟩ := hrel
                have hml := mirP_len s c cp (L.take k) 0
                rw [List.length_take] at hml
                have HV := Lib.hid hV
                have Hown := Lib.hid hown
                have lV := hV.lt
                obtain ⟨_, _, vv2⟩ := hV.cell
                clear hV hown
                by_cases hlt : k < L.length
                · obtain ⟨b, o, d, st, ct, rfl, hb, he, c0, c1, c2⟩ := HV.out.pa.at_ hlt
                  obtain ⟨a1, a2, a3, a4, a5, a6⟩ := seg_t (seg_of_all HA.out he)
                  simp only at a1 a2 a3 a4 a5 a6
                  have ht := mirP_take s c cp L 0 k _ he
                  rw [Nat.zero_add] at ht
                  have z2 : (0 : Int) ≤ (k : Int) := by omega
                  have z3 : (k : Int) < (L.length : Int) := by omega
                  have w1 := w64 (x := st + s) (by omega)
                  clear he
                  by_cases hq : cp = (k : Int) ∨ cp = -1
                  · rw [if_pos hq] at ht
                    have Ht := Lib.hid ht
                    have Hq := Lib.hid hq
                    have hlen : (mirP s c cp (L.take k) 0).length ≤ k := by omega
                    generalize mirP s c cp (L.take k) 0 = acc at Hown Ht hml hlen
                    clear ht hq
                    by_cases p1 : cp = -1
                    · have e1 : (cp == -1) = true := by simp [p1]
                      clear p1 q1 q2
                      go_upto_region 12 with fail
                      obtain ⟨W, hWe⟩ : ∃ W : World, W = wr := ⟨_, rfl⟩
                      subst hWe
                      refine wp_region_sp 18 157 [SP.eq u10, SP.eq (.pointer (some ⟨w.heap.size, 2, none⟩)), SP.eq (.slice (some ⟨b, o, none⟩) L.length cap), SP.eq (.int .i64 k), SP.eq (.pointer (some ⟨b, o + k * 3, none⟩)), SP.eq (.pointer (some ⟨b, o + k * 3, none⟩)), SP.eq (.int .i64 d),
                        SP.eq (.pointer (some ⟨w.heap.size, 2, none⟩)), SP.eq (.slice (some ⟨b, o, none⟩) L.length cap), SP.eq (.int .i64 k), SP.eq (.pointer (some ⟨b, o + k * 3, none⟩)), SP.eq (.pointer (some ⟨b, o + k * 3 + 1, none⟩)), SP.eq (.int .i64 st), SP.eq (.int .i64 s), SP.eq (.int .i64 (st + s)), SP.eq (.int .i64 c),
                        SP.eq (.agg #[.int .i64 d, .int .i64 (st + s), .int .i64 c, .int .i64 0]), SP.blk 1 #[.int .i64 d, .int .i64 (st + s), .int .i64 c, .int .i64 0] 32] (by kernel_rfl) (by kernel_rfl) rfl ?_
                      simp only [List.take_succ_cons, List.take_zero, List.drop_succ_cons, List.drop_zero]
                      refine relWalk_cons (fun x hC hd K hK => ?_) (fun v0 => ?_)
                      · go_simp
                        exact hK _ _ hC (Below.refl _ _) rfl
                      simp only [Act.put, List.setIfInBounds_toArray, List.set_cons_zero, List.set_cons_succ]
                      refine relWalk_cons (fun x hC hd K hK => ?_) (fun v1 => ?_)
                      · go_simp
                        exact hK _ _ hC (Below.refl _ _) rfl
                      simp only [Act.put, List.setIfInBounds_toArray, List.set_cons_zero, List.set_cons_succ]
                      refine relWalk_cons (fun x hC hd K hK => ?_) (fun v2 => ?_)
                      · obtain rfl : v1 = _ := hd 1 (by kernel_rfl)
                        have hcell := (hC.cell (p := ⟨w.heap.size, _, none⟩) lV).trans vv2
                        go_simp
                        exact hK _ _ hC (Below.refl _ _) rfl
                      simp only [Act.put, List.setIfInBounds_toArray, List.set_cons_zero, List.set_cons_succ]
                      refine relWalk_cons (fun x hC hd K hK => ?_) (fun v3 => ?_)
                      · go_simp
                        exact hK _ _ hC (Below.refl _ _) rfl
                      simp only [Act.put, List.setIfInBounds_toArray, List.set_cons_zero, List.set_cons_succ]
                      refine relWalk_cons (fun x hC hd K hK => ?_) (fun v4 => ?_)
                      · obtain rfl : v2 = _ := hd 2 (by kernel_rfl)
                        obtain rfl : v3 = _ := hd 3 (by kernel_rfl)
                        go_simp
                        exact hK _ _ hC (Below.refl _ _) rfl
                      simp only [Act.put, List.setIfInBounds_toArray, List.set_cons_zero, List.set_cons_succ]
                      refine relWalk_cons (fun x hC hd K hK => ?_) (fun v5 => ?_)
                      · obtain rfl : v4 = _ := hd 4 (by kernel_rfl)
                        go_simp
                        exact hK _ _ hC (Below.refl _ _) rfl
                      simp only [Act.put, List.setIfInBounds_toArray, List.set_cons_zero, List.set_cons_succ]
                      refine relWalk_cons (fun x hC hd K hK => ?_) (fun v6 => ?_)
                      · obtain rfl : v5 = _ := hd 5 (by kernel_rfl)
                        have hcell := (hC.cell (p := ⟨b, _, none⟩) hb).trans c0
                        go_simp
                        exact hK _ _ hC (Below.refl _ _) rfl
                      simp only [Act.put, List.setIfInBounds_toArray, List.set_cons_zero, List.set_cons_succ]
                      refine relWalk_cons (fun x hC hd K hK => ?_) (fun v7 => ?_)
                      · go_simp
                        exact hK _ _ hC (Below.refl _ _) rfl
                      simp only [Act.put, List.setIfInBounds_toArray, List.set_cons_zero, List.set_cons_succ]
                      refine relWalk_cons (fun x hC hd K hK => ?_) (fun v8 => ?_)
                      · obtain rfl : v7 = _ := hd 7 (by kernel_rfl)
                        have hcell := (hC.cell (p := ⟨w.heap.size, _, none⟩) lV).trans vv2
                        go_simp
                        exact hK _ _ hC (Below.refl _ _) rfl
                      simp only [Act.put, List.setIfInBounds_toArray, List.set_cons_zero, List.set_cons_succ]
                      refine relWalk_cons (fun x hC hd K hK => ?_) (fun v9 => ?_)
                      · go_simp
                        exact hK _ _ hC (Below.refl _ _) rfl
                      simp only [Act.put, List.setIfInBounds_toArray, List.set_cons_zero, List.set_cons_succ]
                      refine relWalk_cons (fun x hC hd K hK => ?_) (fun v10 => ?_)
                      · obtain rfl : v8 = _ := hd 8 (by kernel_rfl)
                        obtain rfl : v9 = _ := hd 9 (by kernel_rfl)
                        go_simp
                        exact hK _ _ hC (Below.refl _ _) rfl
                      simp only [Act.put, List.setIfInBounds_toArray, List.set_cons_zero, List.set_cons_succ]
                      refine relWalk_cons (fun x hC hd K hK => ?_) (fun v11 => ?_)
                      · obtain rfl : v10 = _ := hd 10 (by kernel_rfl)
                        go_simp
                        exact hK _ _ hC (Below.refl _ _) rfl
                      simp only [Act.put, List.setIfInBounds_toArray, List.set_cons_zero, List.set_cons_succ]
                      refine relWalk_cons (fun x hC hd K hK => ?_) (fun v12 => ?_)
                      · obtain rfl : v11 = _ := hd 11 (by kernel_rfl)
                        have hcell := (hC.cell (p := ⟨b, _, none⟩) hb).trans c1
                        go_simp
                        exact hK _ _ hC (Below.refl _ _) rfl
                      simp only [Act.put, List.setIfInBounds_toArray, List.set_cons_zero, List.set_cons_succ]
                      refine relWalk_cons (fun x hC hd K hK => ?_) (fun v13 => ?_)
                      · go_simp
                        exact hK _ _ hC (Below.refl _ _) rfl
                      simp only [Act.put, List.setIfInBounds_toArray, List.set_cons_zero, List.set_cons_succ]
                      refine relWalk_cons (fun x hC hd K hK => ?_) (fun v14 => ?_)
                      · obtain rfl : v12 = _ := hd 12 (by kernel_rfl)
                        obtain rfl : v13 = _ := hd 13 (by kernel_rfl)
                        go_simp
                        exact hK _ _ hC (Below.refl _ _) rfl
                      simp only [Act.put, List.setIfInBounds_toArray, List.set_cons_zero, List.set_cons_succ]
                      refine relWalk_cons (fun x hC hd K hK => ?_) (fun v15 => ?_)
                      · go_simp
                        exact hK _ _ hC (Below.refl _ _) rfl
                      simp only [Act.put, List.setIfInBounds_toArray, List.set_cons_zero, List.set_cons_succ]
                      refine relWalk_cons (fun x hC hd K hK => ?_) (fun v16 => ?_)
                      · obtain rfl : v6 = _ := hd 6 (by kernel_rfl)
                        obtain rfl : v14 = _ := hd 14 (by kernel_rfl)
                        obtain rfl : v15 = _ := hd 15 (by kernel_rfl)
                        go_simp
                        exact hK _ _ hC (Below.refl _ _) rfl
                      simp only [Act.put, List.setIfInBounds_toArray, List.set_cons_zero, List.set_cons_succ]
                      refine relWalk_cons (fun x hC hd K hK => ?_) (fun v17 => ?_)
                      · obtain rfl : v16 = _ := hd 16 (by kernel_rfl)
                        go_simp
                        exact hK _ _ (bl_alloc hC _) ((Below.refl _ _).alloc (Nat.le_refl _) _) ⟨_, rfl, heap_alloc_new _ _⟩
                      simp only [Act.put, List.setIfInBounds_toArray, List.set_cons_zero, List.set_cons_succ]
                      refine relWalk_nil ?_
                      intro x hC hG
                      obtain rfl : v0 = _ := hG 0 (by omega)
                      obtain ⟨g, e17, h17⟩ := hG 17 (by omega)
                      obtain rfl : v17 = _ := e17
                      have HV2 := Lib.hid (HV.out.step hC)
                      have Hown2 := Lib.hid (own_step Hown.out hC)
                      have hsz := HV2.out.lt
                      clear hG hC HV Hown vv2 c0 c1 c2 w1
                      go_wp2_with (at_builtin; go_loud (refine wpList_append_lies _ rfl (.tmp 65) (.tmp 82) 27 rfl (w.heap.size + 1) 32 i0 _ 4 32 Try.underlying27 hi hz0 hz1 hz2 rfl (by omega) _ acc.length (pcs acc) rfl Hown2.out ⟨g, 0, none⟩ 1 1 [.int .i64 d, .int .i64 (st + s), .int .i64 c, .int .i64 0] rfl rfl (World.news_of_block h17) (by simp [Value.oneCell']) (by omega) (by unfold maxLen; omega) (by omega) (by omega) _ rfl ?_); intro gg cap4 w4 hown4 hg4 hat4 hlt4)
                      go_roundw
                      case rel => exact ⟨k + 1, by omega, by go_num, by rw [Ht.out]; exact own_snoc hown4, HV2.out.grown H0.out hg4 (fun g hg => by have := (Hown2.out.lt g hg).1; omega)⟩
                      case measure => simp [intOf]; omega
                    · have e1 : (cp == -1) = false := by simp [p1]
                      have e2 : (cp == (k : Int)) = true := by rcases Hq.out with h | h; simp [h]; exact absurd h p1
                      clear p1 q1 q2
                      go_upto_region 12 with fail
                      obtain ⟨W, hWe⟩ : ∃ W : World, W = wr := ⟨_, rfl⟩
                      subst hWe
                      refine wp_region_sp 18 157 [SP.eq u10, SP.eq (.pointer (some ⟨w.heap.size, 2, none⟩)), SP.eq (.slice (some ⟨b, o, none⟩) L.length cap), SP.eq (.int .i64 k), SP.eq (.pointer (some ⟨b, o + k * 3, none⟩)), SP.eq (.pointer (some ⟨b, o + k * 3, none⟩)), SP.eq (.int .i64 d),
                        SP.eq (.pointer (some ⟨w.heap.size, 2, none⟩)), SP.eq (.slice (some ⟨b, o, none⟩) L.length cap), SP.eq (.int .i64 k), SP.eq (.pointer (some ⟨b, o + k * 3, none⟩)), SP.eq (.pointer (some ⟨b, o + k * 3 + 1, none⟩)), SP.eq (.int .i64 st), SP.eq (.int .i64 s), SP.eq (.int .i64 (st + s)), SP.eq (.int .i64 c),
                        SP.eq (.agg #[.int .i64 d, .int .i64 (st + s), .int .i64 c, .int .i64 0]), SP.blk 1 #[.int .i64 d, .int .i64 (st + s), .int .i64 c, .int .i64 0] 32] (by kernel_rfl) (by kernel_rfl) rfl ?_
                      simp only [List.take_succ_cons, List.take_zero, List.drop_succ_cons, List.drop_zero]
                      refine relWalk_cons (fun x hC hd K hK => ?_) (fun v0 => ?_)
                      · go_simp
                        exact hK _ _ hC (Below.refl _ _) rfl
                      simp only [Act.put, List.setIfInBounds_toArray, List.set_cons_zero, List.set_cons_succ]
                      refine relWalk_cons (fun x hC hd K hK => ?_) (fun v1 => ?_)
                      · go_simp
                        exact hK _ _ hC (Below.refl _ _) rfl
                      simp only [Act.put, List.setIfInBounds_toArray, List.set_cons_zero, List.set_cons_succ]
                      refine relWalk_cons (fun x hC hd K hK => ?_) (fun v2 => ?_)
                      · obtain rfl : v1 = _ := hd 1 (by kernel_rfl)
                        have hcell := (hC.cell (p := ⟨w.heap.size, _, none⟩) lV).trans vv2
                        go_simp
                        exact hK _ _ hC (Below.refl _ _) rfl
                      simp only [Act.put, List.setIfInBounds_toArray, List.set_cons_zero, List.set_cons_succ]
                      refine relWalk_cons (fun x hC hd K hK => ?_) (fun v3 => ?_)
                      · go_simp
                        exact hK _ _ hC (Below.refl _ _) rfl
                      simp only [Act.put, List.setIfInBounds_toArray, List.set_cons_zero, List.set_cons_succ]
                      refine relWalk_cons (fun x hC hd K hK => ?_) (fun v4 => ?_)
                      · obtain rfl : v2 = _ := hd 2 (by kernel_rfl)
                        obtain rfl : v3 = _ := hd 3 (by kernel_rfl)
                        go_simp
                        exact hK _ _ hC (Below.refl _ _) rfl
                      simp only [Act.put, List.setIfInBounds_toArray, List.set_cons_zero, List.set_cons_succ]
                      refine relWalk_cons (fun x hC hd K hK => ?_) (fun v5 => ?_)
                      · obtain rfl : v4 = _ := hd 4 (by kernel_rfl)
                        go_simp
                        exact hK _ _ hC (Below.refl _ _) rfl
                      simp only [Act.put, List.setIfInBounds_toArray, List.set_cons_zero, List.set_cons_succ]
                      refine relWalk_cons (fun x hC hd K hK => ?_) (fun v6 => ?_)
                      · obtain rfl : v5 = _ := hd 5 (by kernel_rfl)
                        have hcell := (hC.cell (p := ⟨b, _, none⟩) hb).trans c0
                        go_simp
                        exact hK _ _ hC (Below.refl _ _) rfl
                      simp only [Act.put, List.setIfInBounds_toArray, List.set_cons_zero, List.set_cons_succ]
                      refine relWalk_cons (fun x hC hd K hK => ?_) (fun v7 => ?_)
                      · go_simp
                        exact hK _ _ hC (Below.refl _ _) rfl
                      simp only [Act.put, List.setIfInBounds_toArray, List.set_cons_zero, List.set_cons_succ]
                      refine relWalk_cons (fun x hC hd K hK => ?_) (fun v8 => ?_)
                      · obtain rfl : v7 = _ := hd 7 (by kernel_rfl)
                        have hcell := (hC.cell (p := ⟨w.heap.size, _, none⟩) lV).trans vv2
                        go_simp
                        exact hK _ _ hC (Below.refl _ _) rfl
                      simp only [Act.put, List.setIfInBounds_toArray, List.set_cons_zero, List.set_cons_succ]
                      refine relWalk_cons (fun x hC hd K hK => ?_) (fun v9 => ?_)
                      · go_simp
                        exact hK _ _ hC (Below.refl _ _) rfl
                      simp only [Act.put, List.setIfInBounds_toArray, List.set_cons_zero, List.set_cons_succ]
                      refine relWalk_cons (fun x hC hd K hK => ?_) (fun v10 => ?_)
                      · obtain rfl : v8 = _ := hd 8 (by kernel_rfl)
                        obtain rfl : v9 = _ := hd 9 (by kernel_rfl)
                        go_simp
                        exact hK _ _ hC (Below.refl _ _) rfl
                      simp only [Act.put, List.setIfInBounds_toArray, List.set_cons_zero, List.set_cons_succ]
                      refine relWalk_cons (fun x hC hd K hK => ?_) (fun v11 => ?_)
                      · obtain rfl : v10 = _ := hd 10 (by kernel_rfl)
                        go_simp
                        exact hK _ _ hC (Below.refl _ _) rfl
                      simp only [Act.put, List.setIfInBounds_toArray, List.set_cons_zero, List.set_cons_succ]
                      refine relWalk_cons (fun x hC hd K hK => ?_) (fun v12 => ?_)
                      · obtain rfl : v11 = _ := hd 11 (by kernel_rfl)
                        have hcell := (hC.cell (p := ⟨b, _, none⟩) hb).trans c1
                        go_simp
                        exact hK _ _ hC (Below.refl _ _) rfl
                      simp only [Act.put, List.setIfInBounds_toArray, List.set_cons_zero, List.set_cons_succ]
                      refine relWalk_cons (fun x hC hd K hK => ?_) (fun v13 => ?_)
                      · go_simp
                        exact hK _ _ hC (Below.refl _ _) rfl
                      simp only [Act.put, List.setIfInBounds_toArray, List.set_cons_zero, List.set_cons_succ]
                      refine relWalk_cons (fun x hC hd K hK => ?_) (fun v14 => ?_)
                      · obtain rfl : v12 = _ := hd 12 (by kernel_rfl)
                        obtain rfl : v13 = _ := hd 13 (by kernel_rfl)
                        go_simp
                        exact hK _ _ hC (Below.refl _ _) rfl
                      simp only [Act.put, List.setIfInBounds_toArray, List.set_cons_zero, List.set_cons_succ]
                      refine relWalk_cons (fun x hC hd K hK => ?_) (fun v15 => ?_)
                      · go_simp
                        exact hK _ _ hC (Below.refl _ _) rfl
                      simp only [Act.put, List.setIfInBounds_toArray, List.set_cons_zero, List.set_cons_succ]
                      refine relWalk_cons (fun x hC hd K hK => ?_) (fun v16 => ?_)
                      · obtain rfl : v6 = _ := hd 6 (by kernel_rfl)
                        obtain rfl : v14 = _ := hd 14 (by kernel_rfl)
                        obtain rfl : v15 = _ := hd 15 (by kernel_rfl)
                        go_simp
                        exact hK _ _ hC (Below.refl _ _) rfl
                      simp only [Act.put, List.setIfInBounds_toArray, List.set_cons_zero, List.set_cons_succ]
                      refine relWalk_cons (fun x hC hd K hK => ?_) (fun v17 => ?_)
                      · obtain rfl : v16 = _ := hd 16 (by kernel_rfl)
                        go_simp
                        exact hK _ _ (bl_alloc hC _) ((Below.refl _ _).alloc (Nat.le_refl _) _) ⟨_, rfl, heap_alloc_new _ _⟩
                      simp only [Act.put, List.setIfInBounds_toArray, List.set_cons_zero, List.set_cons_succ]
                      refine relWalk_nil ?_
                      intro x hC hG
                      obtain rfl : v0 = _ := hG 0 (by omega)
                      obtain ⟨g, e17, h17⟩ := hG 17 (by omega)
                      obtain rfl : v17 = _ := e17
                      have HV2 := Lib.hid (HV.out.step hC)
                      have Hown2 := Lib.hid (own_step Hown.out hC)
                      have hsz := HV2.out.lt
                      clear hG hC HV Hown vv2 c0 c1 c2 w1
                      go_wp2_with (at_builtin; go_loud (refine wpList_append_lies _ rfl (.tmp 65) (.tmp 82) 27 rfl (w.heap.size + 1) 32 i0 _ 4 32 Try.underlying27 hi hz0 hz1 hz2 rfl (by omega) _ acc.length (pcs acc) rfl Hown2.out ⟨g, 0, none⟩ 1 1 [.int .i64 d, .int .i64 (st + s), .int .i64 c, .int .i64 0] rfl rfl (World.news_of_block h17) (by simp [Value.oneCell']) (by omega) (by unfold maxLen; omega) (by omega) (by omega) _ rfl ?_); intro gg cap4 w4 hown4 hg4 hat4 hlt4)
                      go_roundw
                      case rel => exact ⟨k + 1, by omega, by go_num, by rw [Ht.out]; exact own_snoc hown4, HV2.out.grown H0.out hg4 (fun g hg => by have := (Hown2.out.lt g hg).1; omega)⟩
                      case measure => simp [intOf]; omega
                  · rw [if_neg hq, List.append_nil] at ht
                    have Ht := Lib.hid ht
                    have e1 : (cp == (k : Int)) = false := by simp; exact fun h => hq (.inl h)
                    have e2 : (cp == -1) = false := by simp; exact fun h => hq (.inr h)
                    clear ht hq q1 q2
                    go_wp2
                    go_roundw
                    case rel => exact ⟨k + 1, by omega, by go_num, by rw [Ht.out]; exact Hown.out, HV.out⟩
                    case measure => simp [intOf]; omega
                · obtain rfl : k = L.length := by omega
                  go_wp2
                  go_ret
                  exact ⟨_, rfl, by rw [Hmap.out]; exact PcA.of_own Hown.out (by unfold maxLen; omega), HV.out.below⟩
        · have e3 : (kd == 3) = false := by simp [k3]
          have Hk3 := Lib.hid k3
          have Hmap := Lib.hid (show mapP kd ch L s c cp = runP kd ch L s c c.toNat 0 by unfold mapP; rw [Hok.out, if_pos rfl, if_neg k3])
          have hkd : kd = 1 ∨ kd = 2 := by
            rcases (kind_cases Hso.out).1 with h | h | h
            · exact .inl h
            · exact .inr h
            · exact absurd h k3
          clear k3
          go_wp2
          clear v0 v1 v2
          have hN : c.toNat ≤ 128 := by omega
          go_loopw [12, 13] (fun s12 s13 wx => ∃ i : Nat, (i : Int) ≤ c ∧ s13 = .int .i64 i ∧ wx.ownsRow (w.heap.size + 1) 32 4 s12 (runP kd ch L s i c.toNat 0).length (pcs (runP kd ch L s i c.toNat 0)) ∧ VS w w.heap.size kd ch A L cap wx) (fun _ s13 _ => (c - intOf s13).toNat)
          case atStart => exact ⟨0, by omega, rfl, by rw [runP_done c.toNat (show ((0 : Nat) : Int) ≤ 0 by omega)]; exact World.ownsRow_nil _ _ _ _, HV.out⟩
          case round =>
            clear HV
            obtain ⟨i, hi', rfl, hown, hV⟩ := hrel
            have HV := Lib.hid hV
            have Hown := Lib.hid hown
            clear hV hown
            by_cases hlt : (i : Int) < c
            · have hat : ∀ w', PA w' A L → Calls Try.prog 32 #[volV kd ch A L.length cap, .int .i64 (s + i), .int .i64 0] w' (Ret2 (plc kd ch L (s + i)).1 (plc kd ch L (s + i)).2.1 w') := fun w' hp => by
                have := at_w kd ch A L cap (s + i) 0 w' hp Hso.out (by omega) (by omega) (by rw [Hz.out]; omega)
                unfold atP at this
                rw [if_neg Hk3.out] at this
                exact this
              obtain ⟨r1, _, _⟩ := plc_range (s := s + i) Hso.out Hk3.out (by omega) (by rw [Hz.out]; omega)
              have Hst := Lib.hid (runP_step (s := s) (i := i) (f := c.toNat) Hso.out Hk3.out o2 (by rw [Hz.out]; omega) (by omega))
              have hlen := runP_len kd ch L s i c.toNat 0
              have hone : onePc kd ch L s i = ((at0 L (plc kd ch L (s + i)).1).1, (plc kd ch L (s + i)).2.1, 1, (i : Int)) := rfl
              rw [hone] at Hst
              have Hf1 := Lib.hid (fun (h : kd = 1) (hi : 0 < i) => by
                have := fresh1 Hso.out h (x := s + ((i : Int) - 1)) (by omega) (by rw [Hz.out]; omega)
                rw [show s + ((i : Int) - 1) + 1 = s + i by omega] at this
                exact this)
              have Hf2 := Lib.hid (show kd = 2 → ((s + (i : Int)) % ch = 0 ↔ (plc kd ch L (s + ((i : Int) - 1))).2.2 = 1) from fun h => by
                have := fresh2 (L := L) ((kind_cases Hso.out).2 h).1 (s + ((i : Int) - 1))
                rw [show s + ((i : Int) - 1) + 1 = s + i by omega] at this
                rw [h]
                exact this)
              have Hat2 := Lib.hid (show 0 < i → ∀ w', PA w' A L → Calls Try.prog 32 #[volV kd ch A L.length cap, .int .i64 (s + i - 1), .int .i64 0] w' (Ret2 (plc kd ch L (s + ((i : Int) - 1))).1 (plc kd ch L (s + ((i : Int) - 1))).2.1 w') from fun hi w' hp => by
                have := at_w kd ch A L cap (s + ((i : Int) - 1)) 0 w' hp Hso.out (by omega) (by omega) (by rw [Hz.out]; omega)
                unfold atP at this
                rw [if_neg Hk3.out, show s + ((i : Int) - 1) = s + i - 1 by omega] at this
                rw [show s + ((i : Int) - 1) = s + i - 1 by omega]
                exact this)
              have Hch := Lib.hid (fun h => (kind_cases Hso.out).2 h)
              have Hfr := Lib.hid (show frB kd ch L s i = decide (i = 0 ∨ (plc kd ch L (s + ((i : Int) - 1))).2.2 = 1) from rfl)
              have w1 := w64 (x := s + (i : Int)) (by omega)
              have w2 := w64 (x := s + (i : Int) - 1) (by omega)
              generalize plc kd ch L (s + i) = P at hat r1 Hst Hf1
              generalize plc kd ch L (s + ((i : Int) - 1)) = P1 at Hf1 Hf2 Hat2 Hfr
              generalize frB kd ch L s i = fr at Hst Hfr
              obtain ⟨p, at_, room⟩ := P
              obtain ⟨p1, at1, room1⟩ := P1
              simp only at hat r1 Hst Hf1 Hf2 Hat2 Hfr
              obtain ⟨b, o, d, st, ct, rfl, hb, he, _, _, _⟩ := HV.out.pa.at_ r1
              rw [at0_some he] at Hst
              have He := Lib.hid he
              clear he hb hone
              obtain ⟨v0, v1, v2⟩ := HV.out.cell
              go_upto_region 19 with (go_at_call 32; (with_reducible refine Calls.mono (hat _ HV.out.pa) ?_); rintro e w1 ⟨rfl, hb1⟩; have HV1 := Lib.hid (HV.out.step hb1); have Hown1 := Lib.hid (own_step Hown.out hb1); clear HV Hown v0 v1 v2)
              clear hat
              obtain ⟨v0, v1, v2⟩ := HV1.out.cell
              obtain ⟨W2, hW2⟩ : ∃ W : World, W = w1 := ⟨_, rfl⟩
              subst hW2
              go_cut [16] from 85 to 155 (fun s16 wx => ∃ t, s16 = .bool t ∧ (kd = 1 → t = decide (i = 0)) ∧ (kd = 2 → t = fr) ∧ W2 = wx)
              case first =>
                clear Hst Hat2 hlen Hmap hi' hN
                by_cases h0 : i = 0
                · have e0 : ((i : Int) == 0) = true := by simp [h0]
                  have HT := Lib.hid (show (kd = 1 → true = decide (i = 0)) ∧ (kd = 2 → true = fr) from ⟨fun _ => by simp [h0], fun _ => by rw [Hfr.out]; simp [h0]⟩)
                  clear h0
                  go_wp2
                  go_meet
                  case rel => exact ⟨_, rfl, HT.out.1, HT.out.2, rfl⟩
                · have e0 : ((i : Int) == 0) = false := by simp; omega
                  rcases hkd with hk1 | hk2
                  · have e2 : (kd == 2) = false := by simp [hk1]
                    have HT := Lib.hid (show (kd = 1 → false = decide (i = 0)) ∧ (kd = 2 → false = fr) from ⟨fun _ => by simp [h0], fun h => by omega⟩)
                    clear h0 hk1
                    go_wp2
                    go_meet
                    case rel => exact ⟨_, rfl, HT.out.1, HT.out.2, rfl⟩
                  · have e2 : (kd == 2) = true := by simp [hk2]
                    obtain ⟨hc1, hc2, _⟩ := Hch.out hk2
                    have hf := Hf2.out hk2
                    obtain ⟨m, hm⟩ : ∃ m, (s + (i : Int)) % ch = m := ⟨_, rfl⟩
                    have m0 : 0 ≤ m := by rw [← hm]; exact Int.emod_nonneg _ (by omega)
                    have m1 : m < ch := by rw [← hm]; exact Int.emod_lt_of_pos _ (by omega)
                    have em : (s + (i : Int)).tmod ch = m := by rw [Int.tmod_eq_emod_of_nonneg (by omega)]; exact hm
                    have ez : (ch == 0) = false := by simp; omega
                    rw [hm] at hf
                    have HT := Lib.hid (show (kd = 1 → (m == 0) = decide (i = 0)) ∧ (kd = 2 → (m == 0) = fr) from ⟨fun h => by omega, fun _ => by rw [Hfr.out, Bool.eq_iff_iff]; simp [h0, hf]⟩)
                    have w3 := w64 (x := m) (by omega)
                    clear h0 hk2 hf hm
                    go_wp2
                    go_meet
                    case rel => exact ⟨_, rfl, HT.out.1, HT.out.2, rfl⟩
              case rest =>
                obtain ⟨t, rfl, ht1, ht2, rfl⟩ := hcut
                have Ht1 := Lib.hid ht1
                have Ht2 := Lib.hid ht2
                clear ht1 ht2
                go_upto_region 20 with fail
                go_cut [120] from 85 to 155 (fun s120 wx => ∃ q, s120 = .bool q ∧ (q = true ↔ kd = 1 ∧ 0 < i) ∧ W2 = wx)
                case first =>
                  clear Hst Hat2 hlen Hmap hi' hN
                  rcases hkd with hk1 | hk2
                  · have e1 : (kd == 1) = true := by simp [hk1]
                    have HT := Lib.hid (show ((decide (0 < i)) = true ↔ kd = 1 ∧ 0 < i) by simp [hk1])
                    clear hk1
                    go_wp2
                    go_meet
                    case rel => exact ⟨_, rfl, HT.out, rfl⟩
                  · have e1 : (kd == 1) = false := by simp [hk2]
                    have HT := Lib.hid (show (false = true ↔ kd = 1 ∧ 0 < i) by simp [hk2])
                    clear hk2
                    go_wp2
                    go_meet
                    case rel => exact ⟨_, rfl, HT.out, rfl⟩
                case rest =>
                  obtain ⟨q, rfl, hq, rfl⟩ := hcut
                  go_upto_if 120 with fail
                  go_cut [16, 17, 18] from 85 to 155 (fun s16 _ _ wx => s16 = .bool fr ∧ VS w w.heap.size kd ch (some ⟨b, o, none⟩) L cap wx ∧ wx.ownsRow (w.heap.size + 1) 32 4 u12 (runP kd ch L s i c.toNat 0).length (pcs (runP kd ch L s i c.toNat 0)))
                  case first =>
                    clear Hst hlen Hmap hi' hN
                    cases q with
                    | true =>
                      obtain ⟨hk1, hi1⟩ := hq.1 rfl
                      have hat2 := Hat2.out hi1
                      have hf := Hf1.out hk1 hi1
                      clear hq
                      by_cases hp : p1 = p
                      · have ep : ((p1 : Int) != (p : Int)) = false := by simp [hp]
                        have HT := Lib.hid (show false = fr by rw [Hfr.out]; simp [hp] at hf; simp [hf]; omega)
                        clear hp hf hk1
                        go_wp2_with (go_at_call 32; (with_reducible refine Calls.mono (hat2 _ HV1.out.pa) ?_); rintro e w3 ⟨rfl, hb3⟩)
                        go_meet
                        case rel => exact ⟨by rw [← HT.out], HV1.out.step hb3, own_step Hown1.out hb3⟩
                      · have ep : ((p1 : Int) != (p : Int)) = true := by simp; omega
                        have HT := Lib.hid (show true = fr by rw [Hfr.out]; simp [hp] at hf; simp [hf])
                        clear hp hf hk1
                        go_wp2_with (go_at_call 32; (with_reducible refine Calls.mono (hat2 _ HV1.out.pa) ?_); rintro e w3 ⟨rfl, hb3⟩)
                        go_meet
                        case rel => exact ⟨by rw [← HT.out], HV1.out.step hb3, own_step Hown1.out hb3⟩
                    | false =>
                      have HT := Lib.hid (show t = fr by
                        rcases hkd with h | h
                        · have h0 : ¬ (kd = 1 ∧ 0 < i) := fun hh => by cases hq.2 hh
                          have h0' : i = 0 := by omega
                          rw [Ht1.out h, Hfr.out]; simp [h0']
                        · exact Ht2.out h)
                      clear hq
                      go_wp2
                      go_meet
                      case rel => exact ⟨by rw [← HT.out], HV1.out, Hown1.out⟩
                  case rest =>
                    clear Hat2 Hf1 Hf2 Hfr Ht1 Ht2 hq HV1 Hown1 v0 v1 v2
                    obtain ⟨rfl, hV, hown⟩ := hcut
                    have HV := Lib.hid hV
                    have Hown := Lib.hid hown
                    have lV := hV.lt
                    clear hV hown
                    go_upto_if 133 with fail
                    go_cut [12] from 85 to 155 (fun s12 wx => ∃ (pre : List Pc) (dd aa nn oo : Int) (gg cap' : Nat), s12 = .slice (some ⟨gg, 0, none⟩) (pre.length + 1) cap' ∧ wx.ownsRow (w.heap.size + 1) 32 4 (.slice (some ⟨gg, 0, none⟩) (pre.length + 1) cap') (pre.length + 1) (pcs (pre ++ [(dd, aa, nn, oo)])) ∧ 0 ≤ nn ∧ nn ≤ 128 ∧ pre.length ≤ 128 ∧ runP kd ch L s ((i : Int) + 1) c.toNat 0 = pre ++ [(dd, aa, nn + 1, oo)] ∧ VS w w.heap.size kd ch (some ⟨b, o, none⟩) L cap wx)
                    case first =>
                      cases fr with
                      | true =>
                        have H2 := Lib.hid (Hst.out.1 rfl)
                        clear Hst
                        generalize runP kd ch L s i c.toNat 0 = acc at Hown H2 hlen
                        obtain ⟨d', st', ct', hb, he, c0, _, _⟩ := HV.out.pa.get r1
                        rw [He.out] at he
                        simp only [Option.some.injEq, Prod.mk.injEq] at he
                        obtain ⟨rfl, rfl, rfl⟩ := he
                        obtain ⟨v0, v1, v2⟩ := HV.out.cell
                        have p0 : (0 : Int) ≤ (p : Int) := by omega
                        have p1' : (p : Int) < (L.length : Int) := by omega
                        go_wp2_with (at_builtin; go_loud (refine wpList_append_lies _ rfl (.tmp 134) (.tmp 144) 27 rfl (w.heap.size + 1) 32 i0 _ 4 32 Try.underlying27 hi hz0 hz1 hz2 rfl (by omega) _ acc.length (pcs acc) rfl (Hown.out.alloc _) ⟨_, 0, none⟩ 1 1 [.int .i64 d, .int .i64 at_, .int .i64 0, .int .i64 i] rfl rfl (World.news_of_block (heap_at_new _ _ _ (by first | rfl | simp))) (by simp [Value.oneCell']) (by omega) (by unfold maxLen; omega) (by omega) (by simp; omega) _ rfl ?_); intro gg cap4 w4 hown4 hg4 hat4 hlt4)
                        go_meet
                        case rel =>
                          have hx := own_snoc hown4
                          exact ⟨acc, d, at_, 0, (i : Int), gg, cap4, rfl, by simpa using hx, by omega, by omega, by omega, by rw [H2.out]; rfl, (HV.out.alloc _).grown H0.out hg4 (fun g hg => by have := (Hown.out.lt g hg).1; omega)⟩
                      | false =>
                        obtain ⟨pre, d2, a2, n2, o2', e1, n0, n1, e2⟩ := Hst.out.2 rfl
                        have hown := Hown.out
                        rw [e1] at hown hlen
                        obtain ⟨gg, cap', hu, _, _⟩ := hown.form (by simp)
                        subst hu
                        have HH := Lib.hid hown
                        have HE := Lib.hid e2
                        clear Hst Hown hown e1 e2
                        rw [List.length_append] at hlen
                        simp only [List.length_cons, List.length_nil] at hlen
                        go_wp2
                        go_meet
                        case rel => exact ⟨pre, d2, a2, n2, o2', gg, cap', by simp, by simpa using HH.out, by omega, n1, by omega, HE.out, HV.out⟩
                    case rest =>
                      clear HV Hown lV Hst hlen
                      obtain ⟨pre, d2, a2, n2, o2', gg, cap', rfl, hown, n0, n1, hpl, hrun, hV⟩ := hcut
                      have HV := Lib.hid hV
                      have Hown := Lib.hid hown
                      have Hrun := Lib.hid hrun
                      have w3 := w64 (x := n2 + 1) (by omega)
                      have c2 : wc.cell? ⟨gg, pre.length * 4 + 2, none⟩ = some (.int .i64 n2) := (hown.cellAt _ (by omega)).trans (pcs_get (pre ++ [(d2, a2, n2, o2')]) pre.length d2 a2 n2 o2' (by simp)).2.2.1
                      have f2 := hown.frozenAt (pre.length * 4 + 2)
                      have z1 : (0 : Int) ≤ (pre.length : Int) := by omega
                      have z2 : (pre.length : Int) < (pre.length : Int) + 1 := by omega
                      clear hV hown hrun
                      go_wp2
                      go_roundw
                      case rel =>
                        have hs := Hown.out.stored (pre.length * 4 + 2) (.int .i64 (n2 + 1))
                        rw [pcs_set] at hs
                        refine ⟨i + 1, by omega, by go_num, ?_, HV.out.grown H0.out hs.2 (fun g hg => by have := (Hown.out.lt gg rfl).1; injection hg with hg; omega)⟩
                        rw [show ((i + 1 : Nat) : Int) = (i : Int) + 1 by omega, Hrun.out]
                        simpa using hs.1
                      case measure => simp [intOf]; omega
            · have hic : (i : Int) = c := by omega
              rw [hic] at Hown
              have hlen := runP_len kd ch L s c c.toNat 0
              clear hic
              go_wp2
              go_ret
              exact ⟨_, rfl, by rw [Hmap.out]; exact PcA.of_own Hown.out (by unfold maxLen; omega), HV.out.below⟩

end Go.Proofs.Ytdeggdbaeeamiaa
