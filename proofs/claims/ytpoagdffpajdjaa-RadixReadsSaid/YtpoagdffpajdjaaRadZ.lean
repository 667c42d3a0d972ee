/-
  The law RadixReads, by contracts.
-/
import Derived.Test.YtpoagdffpajdjaaRadY
import Derived.Test.YtpoagdffpajdjaaRelG
import Derived.Deep.CutRange
namespace Go.Proofs.Ytpoagdffpajdjaa
open Go.RowKit
set_option linter.unusedVariables false
set_option linter.unusedSimpArgs false

def kb7 : Nat → Option Bool
  | 5 => some true
  | 14 => some true
  | _ => none
def kb8 : Nat → Option Bool
  | 1 => some true
  | 6 => some true
  | 11 => some true
  | 20 => some true
  | 27 => some true
  | _ => none
def SP.ea (l : List En) : SP := ⟨fun v w => EA w Any v l, fun _ _ _ hb h => h.step hb⟩
def markL : List Int := [0, 1, 2, 4, 3, 8, -1]
set_option maxRecDepth 100000 in
set_option maxHeartbeats 4000000 in
theorem own_ea {w : World} {base : Nat} {v : Value} {l : List En} {t : TypeId} (h : w.ownsRow base t 3 v l.length (ens l)) : EA w Any v l := EA.of_own h fun _ _ => trivial
theorem tape_two (w : World) (x y : Int) : Tp w (w.heap.size + 1) ((w.alloc (.cells #[.int .i64 x, .int .i64 y] 3)).alloc (.cells #[.slice (some ⟨w.heap.size, 0, none⟩) 2 2, .int .i64 0] 32)) := by
  refine ⟨⟨some ⟨w.heap.size, 0, none⟩, 2, 2, 0, ?_, by omega, by unfold maxLen; omega, fun i hi => ⟨w.heap.size, 0, if i = 0 then x else y, rfl, by omega, ?_⟩⟩, bl_alloc (bl_alloc (Below.refl _ _) _) _, by omega⟩
  · exact heap_at_new _ _ _ (by simp)
  · rw [cells_at (bk_alloc (heap_alloc_at w _) _)]
    match i, hi with
    | 0, _ => rfl
    | 1, _ => rfl
set_option maxRecDepth 100000 in
set_option maxHeartbeats 4000000 in
theorem radixReads_walk (a0 : Option Addr) (len0 cap0 : Nat) (z0 : List Int) (n0 n1 n2 a2 a3 : Int) (w : World) (w0 : IsRow .i64 w a0 len0 cap0 z0) :
    Calls Try.prog 3 #[.slice a0 len0 cap0, .agg #[.int .i64 n0, .int .i64 n1, .int .i64 n2], .int .i64 a2, .int .i64 a3] w fun e w' => e = .returned (.bool true) ∧ Below w.heap.size w w' := by
  obtain ⟨W, hW⟩ : ∃ W, w.alloc (.cells #[.int .i64 n0, .int .i64 n1, .int .i64 n2] 23) = W := ⟨_, rfl⟩
  have HB0 := Lib.hid (show Below w.heap.size w W by rw [← hW]; exact bl_alloc (Below.refl _ _) _)
  have hN := show W.heap[w.heap.size]? = some (.cells #[.int .i64 n0, .int .i64 n1, .int .i64 n2] 23 (0, 0)) by rw [← hW]; exact heap_alloc_at w _
  have hdr := drawn_w a0 len0 cap0 z0 n0 n1 n2 W (row_step w0 HB0.out)
  have y0 := cells_at hN 0
  have y1 := cells_at hN 1
  have y2 := cells_at hN 2
  simp only [List.getElem?_toArray, List.getElem?_cons_zero, List.getElem?_cons_succ] at y0 y1 y2
  go_enter Try.func3, Try.ntmps3
  go_upto_region 1 with fail
  go_cut [9] (fun s9 wx => ∃ (Z : Nat) (hI : Int) (A : Option Addr) (n cap : Nat) (v m : Int) (V : Bool) (l : List En), s9 = .pointer (some ⟨Z, 0, none⟩) ∧ wx.heap[Z]? = some (.cells #[.int .i64 hI, .slice A n cap, .int .i64 v, .int .i64 m] 28 (0, 0)) ∧ Beh (trV hI A n cap v m) V l wx ∧ Below w.heap.size w wx)
  case first =>
    go_wp2_with (first
      | (go_at_call 10; go_must (refine hdr.mono ?_); rintro e w1 ⟨hI, t, A, cap, rfl, h1, h2, hl, hc, hk, hb1⟩)
      | (refine wpList_store_rowTo rfl 28 (.tmp 9) (.tmp 20) rfl rfl (w1.heap.size) #[.int .i64 hI, .slice A t.kids.length cap, .int .i64 t.val, .int .i64 t.marks] rfl rfl 28 _ (heap_alloc_new _ _) tree_size rfl (tree_one _ _ _ _ _ _) ?_))
    go_meet
    case rel =>
      have hst : Below w1.heap.size w1 ((w1.alloc (.cells #[.int .i64 0, .slice none 0 0, .int .i64 0, .int .i64 0] 28)).setRow w1.heap.size #[.int .i64 hI, .slice A t.kids.length cap, .int .i64 t.val, .int .i64 t.marks]) := bl_setRow (bl_alloc (Below.refl _ _) _) (Nat.le_refl _) _
      obtain ⟨V, l, hbeh⟩ := Beh.of (hI := hI) (by unfold maxLen; omega) hc hk
      exact ⟨w1.heap.size, hI, A, _, cap, _, _, V, l, rfl, setRow_heap _ _ _ _ _ _ (heap_alloc_new _ _), hbeh.step hst, bl_step (bl_step HB0.out hb1) hst⟩
  case rest =>
    clear hdr y0 y1 y2 hN HB0 hW
    obtain ⟨Z, hI, A, n, cap, v, m, V, l, rfl, hZ, hbeh, hB⟩ := hcut
    have HZ := Lib.hid hZ
    have HH := Lib.hid hbeh
    have HB := Lib.hid hB
    clear hZ hbeh hB
    have HT := Lib.hid (tape_two wc a2 a3)
    go_upto_region 4 with (go_at_call 11; go_must (refine (odd_t wc _ _ HT.out).mono ?_); rintro e w1 ⟨k, rfl, k0, k1, hT, hg⟩)
    have HT1 := Lib.hid hT
    clear HT hT hg k0 k1
    go_cut [12] (fun s12 wx => ∃ mark, s12 = .int .i64 mark ∧ Below wc.heap.size wc wx)
    case first =>
      go_wp2_with (go_at_call 12; go_must (refine (next_t _ wc _ _ (by omega) (by omega) (HT1.out.alloc _)).mono ?_); rintro e w2 ⟨x, rfl, h0, h1, hT, hg⟩; obtain ⟨i, rfl⟩ := Int.eq_ofNat_of_zero_le h0; have hi : i < markL.length := (by simp only [markL, List.length_cons, List.length_nil]; omega); have hc := hg.cell (ints_cell w1 markL 3 i hi) (by have := HT1.out.lt; simp; omega); generalize markL[i] = y at hc; clear hi)
      go_meet
      case rel => exact ⟨_, rfl, hT.below⟩
    case rest =>
      obtain ⟨mark, rfl, hb1⟩ := hcut
      have HZ1 := Lib.hid (bk_step HZ.out hb1)
      have HH1 := Lib.hid (HH.out.step hb1)
      have HB1 := Lib.hid (bl_step HB.out hb1)
      clear HT1 HZ HH HB hb1
      obtain ⟨U, hU⟩ : ∃ U : World, U = wc := ⟨_, rfl⟩
      subst hU
      have x0 := cells_at HZ1.out 0; have x1 := cells_at HZ1.out 1; have x2 := cells_at HZ1.out 2; have x3 := cells_at HZ1.out 3; simp only [List.getElem?_toArray, List.getElem?_cons_zero, List.getElem?_cons_succ] at x0 x1 x2 x3
      go_upto_region 5 with fail
      go_cut [13, 14] (fun s13 s14 wx => s13 = .int .i64 (nextP l k mark).1 ∧ s14 = .bool (nextP l k mark).2 ∧ Below U.heap.size U wx)
      case first =>
        go_wp2_with (go_at_call 13; go_must (refine (HH1.out.nx k mark _ (Below.refl _ _)).mono ?_); rintro e w2 ⟨rfl, hb2⟩)
        go_meet
        case rel => exact ⟨rfl, rfl, hb2⟩
      case rest =>
        obtain ⟨rfl, rfl, hb1⟩ := hcut
        have HZ2 := Lib.hid (bk_step HZ1.out hb1)
        have HH2 := Lib.hid (HH1.out.step hb1)
        have HB2 := Lib.hid (bl_step HB1.out hb1)
        clear HZ1 HH1 HB1 hb1 x0 x1 x2 x3
        have x0 := cells_at HZ2.out 0; have x1 := cells_at HZ2.out 1; have x2 := cells_at HZ2.out 2; have x3 := cells_at HZ2.out 3; simp only [List.getElem?_toArray, List.getElem?_cons_zero, List.getElem?_cons_succ] at x0 x1 x2 x3
        obtain ⟨U, hU⟩ : ∃ U : World, U = wc := ⟨_, rfl⟩
        subst hU
        go_upto_region 6 with fail
        go_cut [15, 16] (fun s15 s16 wx => s15 = .int .i64 (nextP l k mark).1 ∧ s16 = .bool (nextP l k mark).2 ∧ Below U.heap.size U wx)
        case first =>
          go_wp2_with (go_at_call 14; go_must (refine (HH2.out.rnx k mark _ (Below.refl _ _)).mono ?_); rintro e w2 ⟨rfl, hb2⟩)
          go_meet
          case rel => exact ⟨rfl, rfl, hb2⟩
        case rest =>
          obtain ⟨rfl, rfl, hb1⟩ := hcut
          have HZ1 := Lib.hid (bk_step HZ2.out hb1)
          have HH1 := Lib.hid (HH2.out.step hb1)
          have HB1 := Lib.hid (bl_step HB2.out hb1)
          clear HZ2 HH2 HB2 hb1 x0 x1 x2 x3
          have x0 := cells_at HZ1.out 0; have x1 := cells_at HZ1.out 1; have x2 := cells_at HZ1.out 2; have x3 := cells_at HZ1.out 3; simp only [List.getElem?_toArray, List.getElem?_cons_zero, List.getElem?_cons_succ] at x0 x1 x2 x3
          have lZ := bk_lt HZ1.out
          obtain ⟨U, hU⟩ : ∃ U : World, U = wc := ⟨_, rfl⟩
          subst hU
          go_upto_region 7 with fail
          go_cut [17] (fun s17 wx => s17 = .bool true ∧ Below U.heap.size U wx)
          case first =>
            refine wp_region_sg 25 102 [SP.eq (trV hI A n cap v m), SP.eq (.bool V), SP.eq (trV hI A n cap v m), SP.eq (.bool V), SP.eq (.bool true), SP.eq (.bool true), SP.eq (trV hI A n cap v m), SP.eq (.int .i64 k), SP.eq (.int .i64 (lkP l k).1), SP.eq (trV hI A n cap v m), SP.eq (.int .i64 k), SP.eq (.int .i64 (lkP l k).1), SP.eq (.bool true), SP.eq (.bool true), SP.eq (.bool true), SP.eq (trV hI A n cap v m), SP.eq (.int .i64 k), SP.eq (.int .i64 mark), SP.eq (.bool (rMarkedP l k mark)), SP.eq (trV hI A n cap v m), SP.eq (.int .i64 k), SP.eq (.int .i64 mark), SP.eq (.bool (rMarkedP l k mark)), SP.eq (.bool true), SP.eq (.bool true)] kb7 (fun _ => false) (by kernel_rfl) (by kernel_rfl) (by kernel_rfl) rfl (fun k b h v w hv => by
                    unfold kb7 at h
                    split at h
                    all_goals first | (cases h; exact hv) | cases h) ?_
            simp only [List.take_succ_cons, List.take_zero, List.drop_succ_cons, List.drop_zero]
            refine relWalkG_cons rfl (fun x hC hd K hK => ?_) (fun v0 => ?_)
            · have u0 := (hC.cell (p := ⟨Z, _, none⟩) lZ).trans x0
              have u1 := (hC.cell (p := ⟨Z, _, none⟩) lZ).trans x1
              have u2 := (hC.cell (p := ⟨Z, _, none⟩) lZ).trans x2
              have u3 := (hC.cell (p := ⟨Z, _, none⟩) lZ).trans x3
              go_simp
              exact hK _ _ hC (Below.refl _ _) rfl
            simp only [Act.put, List.setIfInBounds_toArray, List.set_cons_zero, List.set_cons_succ]
            refine relWalkG_cons rfl (fun x hC hd K hK => ?_) (fun v1 => ?_)
            · obtain rfl : v0 = _ := hd 0 (by kernel_rfl)
              go_simp
              go_at_call 15
              refine (HH1.out.va x hC).mono ?_
              rintro e w1 ⟨rfl, hb⟩; exact hK _ _ (bl_step hC hb) hb rfl
            simp only [Act.put, List.setIfInBounds_toArray, List.set_cons_zero, List.set_cons_succ]
            refine relWalkG_cons rfl (fun x hC hd K hK => ?_) (fun v2 => ?_)
            · have u0 := (hC.cell (p := ⟨Z, _, none⟩) lZ).trans x0
              have u1 := (hC.cell (p := ⟨Z, _, none⟩) lZ).trans x1
              have u2 := (hC.cell (p := ⟨Z, _, none⟩) lZ).trans x2
              have u3 := (hC.cell (p := ⟨Z, _, none⟩) lZ).trans x3
              go_simp
              exact hK _ _ hC (Below.refl _ _) rfl
            simp only [Act.put, List.setIfInBounds_toArray, List.set_cons_zero, List.set_cons_succ]
            refine relWalkG_cons rfl (fun x hC hd K hK => ?_) (fun v3 => ?_)
            · obtain rfl : v2 = _ := hd 2 (by kernel_rfl)
              go_simp
              go_at_call 16
              refine (HH1.out.rva x hC).mono ?_
              rintro e w1 ⟨rfl, hb⟩; exact hK _ _ (bl_step hC hb) hb rfl
            simp only [Act.put, List.setIfInBounds_toArray, List.set_cons_zero, List.set_cons_succ]
            refine relWalkG_cons rfl (fun x hC hd K hK => ?_) (fun v4 => ?_)
            · obtain rfl : v1 = _ := hd 1 (by kernel_rfl)
              obtain rfl : v3 = _ := hd 3 (by kernel_rfl)
              go_simp
              exact hK _ _ hC (Below.refl _ _) (by simp [SP.eq, GS])
            simp only [Act.put, List.setIfInBounds_toArray, List.set_cons_zero, List.set_cons_succ]
            refine relWalkG_cons rfl (fun x hC hd K hK => ?_) (fun v5 => ?_)
            · obtain rfl : v4 = _ := hd 4 (by kernel_rfl)
              go_simp
              exact hK _ _ hC (Below.refl _ _) rfl
            simp only [Act.put, List.setIfInBounds_toArray, List.set_cons_zero, List.set_cons_succ]
            refine relWalkG_cons rfl (fun x hC hd K hK => ?_) (fun v6 => ?_)
            · have u0 := (hC.cell (p := ⟨Z, _, none⟩) lZ).trans x0
              have u1 := (hC.cell (p := ⟨Z, _, none⟩) lZ).trans x1
              have u2 := (hC.cell (p := ⟨Z, _, none⟩) lZ).trans x2
              have u3 := (hC.cell (p := ⟨Z, _, none⟩) lZ).trans x3
              go_simp
              exact hK _ _ hC (Below.refl _ _) rfl
            simp only [Act.put, List.setIfInBounds_toArray, List.set_cons_zero, List.set_cons_succ]
            refine relWalkG_cons rfl (fun x hC hd K hK => ?_) (fun v7 => ?_)
            · go_simp
              exact hK _ _ hC (Below.refl _ _) rfl
            simp only [Act.put, List.setIfInBounds_toArray, List.set_cons_zero, List.set_cons_succ]
            refine relWalkG_cons rfl (fun x hC hd K hK => ?_) (fun v8 => ?_)
            · obtain rfl : v6 = _ := hd 6 (by kernel_rfl)
              obtain rfl : v7 = _ := hd 7 (by kernel_rfl)
              go_simp
              go_at_call 17
              refine (HH1.out.get k x hC).mono ?_
              rintro e w1 ⟨rfl, hb⟩; exact hK _ _ (bl_step hC hb) hb rfl
            simp only [Act.put, List.setIfInBounds_toArray, List.set_cons_zero, List.set_cons_succ]
            refine relWalkG_cons rfl (fun x hC hd K hK => ?_) (fun v9 => ?_)
            · have u0 := (hC.cell (p := ⟨Z, _, none⟩) lZ).trans x0
              have u1 := (hC.cell (p := ⟨Z, _, none⟩) lZ).trans x1
              have u2 := (hC.cell (p := ⟨Z, _, none⟩) lZ).trans x2
              have u3 := (hC.cell (p := ⟨Z, _, none⟩) lZ).trans x3
              go_simp
              exact hK _ _ hC (Below.refl _ _) rfl
            simp only [Act.put, List.setIfInBounds_toArray, List.set_cons_zero, List.set_cons_succ]
            refine relWalkG_cons rfl (fun x hC hd K hK => ?_) (fun v10 => ?_)
            · go_simp
              exact hK _ _ hC (Below.refl _ _) rfl
            simp only [Act.put, List.setIfInBounds_toArray, List.set_cons_zero, List.set_cons_succ]
            refine relWalkG_cons rfl (fun x hC hd K hK => ?_) (fun v11 => ?_)
            · obtain rfl : v9 = _ := hd 9 (by kernel_rfl)
              obtain rfl : v10 = _ := hd 10 (by kernel_rfl)
              go_simp
              go_at_call 18
              refine (HH1.out.rget k x hC).mono ?_
              rintro e w1 ⟨rfl, hb⟩; exact hK _ _ (bl_step hC hb) hb rfl
            simp only [Act.put, List.setIfInBounds_toArray, List.set_cons_zero, List.set_cons_succ]
            refine relWalkG_cons rfl (fun x hC hd K hK => ?_) (fun v12 => ?_)
            · obtain rfl : v8 = _ := hd 8 (by kernel_rfl)
              obtain rfl : v11 = _ := hd 11 (by kernel_rfl)
              go_simp
              exact hK _ _ hC (Below.refl _ _) (by simp [SP.eq, GS])
            simp only [Act.put, List.setIfInBounds_toArray, List.set_cons_zero, List.set_cons_succ]
            refine relWalkG_cons rfl (fun x hC hd K hK => ?_) (fun v13 => ?_)
            · obtain rfl : v5 = _ := hd 5 (by kernel_rfl)
              obtain rfl : v12 = _ := hd 12 (by kernel_rfl)
              go_simp
              exact hK _ _ hC (Below.refl _ _) (by simp [SP.eq, GS])
            simp only [Act.put, List.setIfInBounds_toArray, List.set_cons_zero, List.set_cons_succ]
            refine relWalkG_cons rfl (fun x hC hd K hK => ?_) (fun v14 => ?_)
            · obtain rfl : v13 = _ := hd 13 (by kernel_rfl)
              go_simp
              exact hK _ _ hC (Below.refl _ _) rfl
            simp only [Act.put, List.setIfInBounds_toArray, List.set_cons_zero, List.set_cons_succ]
            refine relWalkG_cons rfl (fun x hC hd K hK => ?_) (fun v15 => ?_)
            · have u0 := (hC.cell (p := ⟨Z, _, none⟩) lZ).trans x0
              have u1 := (hC.cell (p := ⟨Z, _, none⟩) lZ).trans x1
              have u2 := (hC.cell (p := ⟨Z, _, none⟩) lZ).trans x2
              have u3 := (hC.cell (p := ⟨Z, _, none⟩) lZ).trans x3
              go_simp
              exact hK _ _ hC (Below.refl _ _) rfl
            simp only [Act.put, List.setIfInBounds_toArray, List.set_cons_zero, List.set_cons_succ]
            refine relWalkG_cons rfl (fun x hC hd K hK => ?_) (fun v16 => ?_)
            · go_simp
              exact hK _ _ hC (Below.refl _ _) rfl
            simp only [Act.put, List.setIfInBounds_toArray, List.set_cons_zero, List.set_cons_succ]
            refine relWalkG_cons rfl (fun x hC hd K hK => ?_) (fun v17 => ?_)
            · go_simp
              exact hK _ _ hC (Below.refl _ _) rfl
            simp only [Act.put, List.setIfInBounds_toArray, List.set_cons_zero, List.set_cons_succ]
            refine relWalkG_cons rfl (fun x hC hd K hK => ?_) (fun v18 => ?_)
            · obtain rfl : v15 = _ := hd 15 (by kernel_rfl)
              obtain rfl : v16 = _ := hd 16 (by kernel_rfl)
              obtain rfl : v17 = _ := hd 17 (by kernel_rfl)
              go_simp
              go_at_call 19
              refine (HH1.out.mkd k mark x hC).mono ?_
              rintro e w1 ⟨rfl, hb⟩; exact hK _ _ (bl_step hC hb) hb rfl
            simp only [Act.put, List.setIfInBounds_toArray, List.set_cons_zero, List.set_cons_succ]
            refine relWalkG_cons rfl (fun x hC hd K hK => ?_) (fun v19 => ?_)
            · have u0 := (hC.cell (p := ⟨Z, _, none⟩) lZ).trans x0
              have u1 := (hC.cell (p := ⟨Z, _, none⟩) lZ).trans x1
              have u2 := (hC.cell (p := ⟨Z, _, none⟩) lZ).trans x2
              have u3 := (hC.cell (p := ⟨Z, _, none⟩) lZ).trans x3
              go_simp
              exact hK _ _ hC (Below.refl _ _) rfl
            simp only [Act.put, List.setIfInBounds_toArray, List.set_cons_zero, List.set_cons_succ]
            refine relWalkG_cons rfl (fun x hC hd K hK => ?_) (fun v20 => ?_)
            · go_simp
              exact hK _ _ hC (Below.refl _ _) rfl
            simp only [Act.put, List.setIfInBounds_toArray, List.set_cons_zero, List.set_cons_succ]
            refine relWalkG_cons rfl (fun x hC hd K hK => ?_) (fun v21 => ?_)
            · go_simp
              exact hK _ _ hC (Below.refl _ _) rfl
            simp only [Act.put, List.setIfInBounds_toArray, List.set_cons_zero, List.set_cons_succ]
            refine relWalkG_cons rfl (fun x hC hd K hK => ?_) (fun v22 => ?_)
            · obtain rfl : v19 = _ := hd 19 (by kernel_rfl)
              obtain rfl : v20 = _ := hd 20 (by kernel_rfl)
              obtain rfl : v21 = _ := hd 21 (by kernel_rfl)
              go_simp
              go_at_call 20
              refine (HH1.out.rmk k mark x hC).mono ?_
              rintro e w1 ⟨rfl, hb⟩; exact hK _ _ (bl_step hC hb) hb rfl
            simp only [Act.put, List.setIfInBounds_toArray, List.set_cons_zero, List.set_cons_succ]
            refine relWalkG_cons rfl (fun x hC hd K hK => ?_) (fun v23 => ?_)
            · obtain rfl : v18 = _ := hd 18 (by kernel_rfl)
              obtain rfl : v22 = _ := hd 22 (by kernel_rfl)
              go_simp
              exact hK _ _ hC (Below.refl _ _) (by simp [SP.eq, GS])
            simp only [Act.put, List.setIfInBounds_toArray, List.set_cons_zero, List.set_cons_succ]
            refine relWalkG_cons rfl (fun x hC hd K hK => ?_) (fun v24 => ?_)
            · obtain rfl : v14 = _ := hd 14 (by kernel_rfl)
              obtain rfl : v23 = _ := hd 23 (by kernel_rfl)
              go_simp
              exact hK _ _ hC (Below.refl _ _) (by simp [SP.eq, GS])
            simp only [Act.put, List.setIfInBounds_toArray, List.set_cons_zero, List.set_cons_succ]
            refine relWalkG_nil ?_
            intro x' hC hG
            obtain rfl : v24 = _ := hG 24 (by omega)
            clear hG
            go_wp2
            go_meet
            case rel => exact ⟨rfl, hC⟩
          case rest =>
            obtain ⟨rfl, hb1⟩ := hcut
            have HZ2 := Lib.hid (bk_step HZ1.out hb1)
            have HH2 := Lib.hid (HH1.out.step hb1)
            have HB2 := Lib.hid (bl_step HB1.out hb1)
            clear HZ1 HH1 HB1 hb1 x0 x1 x2 x3 lZ
            have HZ1 := HZ2
            have HH1 := HH2
            have HB1 := HB2
            clear HZ2 HH2 HB2
            have x0 := cells_at HZ1.out 0; have x1 := cells_at HZ1.out 1; have x2 := cells_at HZ1.out 2; have x3 := cells_at HZ1.out 3; simp only [List.getElem?_toArray, List.getElem?_cons_zero, List.getElem?_cons_succ] at x0 x1 x2 x3
            have lZ := bk_lt HZ1.out
            obtain ⟨U, hU⟩ : ∃ U : World, U = wc := ⟨_, rfl⟩
            subst hU
            go_upto_region 8 with fail
            refine wp_region_sg 30 102 [SP.eq (.bool true), SP.eq (.bool true), SP.eq (.int .i64 (nextP l k mark).1), SP.eq (.int .i64 (nextP l k mark).1), SP.eq (.bool true), SP.eq (.bool true), SP.eq (.bool true), SP.eq (.bool (nextP l k mark).2), SP.eq (.bool (nextP l k mark).2), SP.eq (.bool true), SP.eq (.bool true), SP.eq (.bool true), SP.eq (trV hI A n cap v m), SP.eq (.int .i64 mark), SP.eq (.int .i64 (countP l mark)), SP.eq (trV hI A n cap v m), SP.eq (.int .i64 mark), SP.eq (.int .i64 (countP l mark)), SP.eq (.bool true), SP.eq (.bool true), SP.eq (.bool true), SP.eq (trV hI A n cap v m), SP.ea l, SP.eq (trV hI A n cap v m), SP.ea l, SP.eq (.bool true), SP.eq (.bool true), SP.eq (.bool true), SP.eq (.bool true), SP.eq (.bool true)] kb8 (fun _ => false) (by kernel_rfl) (by kernel_rfl) (by kernel_rfl) rfl (fun k b h v w hv => by
                    unfold kb8 at h
                    split at h
                    all_goals first | (cases h; exact hv) | cases h) ?_
            simp only [List.take_succ_cons, List.take_zero, List.drop_succ_cons, List.drop_zero]
            refine relWalkG_cons rfl (fun x hC hd K hK => ?_) (fun v0 => ?_)
            · go_simp
              exact hK _ _ hC (Below.refl _ _) rfl
            simp only [Act.put, List.setIfInBounds_toArray, List.set_cons_zero, List.set_cons_succ]
            refine relWalkG_cons rfl (fun x hC hd K hK => ?_) (fun v1 => ?_)
            · obtain rfl : v0 = _ := hd 0 (by kernel_rfl)
              go_simp
              exact hK _ _ hC (Below.refl _ _) rfl
            simp only [Act.put, List.setIfInBounds_toArray, List.set_cons_zero, List.set_cons_succ]
            refine relWalkG_cons rfl (fun x hC hd K hK => ?_) (fun v2 => ?_)
            · go_simp
              exact hK _ _ hC (Below.refl _ _) rfl
            simp only [Act.put, List.setIfInBounds_toArray, List.set_cons_zero, List.set_cons_succ]
            refine relWalkG_cons rfl (fun x hC hd K hK => ?_) (fun v3 => ?_)
            · go_simp
              exact hK _ _ hC (Below.refl _ _) rfl
            simp only [Act.put, List.setIfInBounds_toArray, List.set_cons_zero, List.set_cons_succ]
            refine relWalkG_cons rfl (fun x hC hd K hK => ?_) (fun v4 => ?_)
            · obtain rfl : v2 = _ := hd 2 (by kernel_rfl)
              obtain rfl : v3 = _ := hd 3 (by kernel_rfl)
              go_simp
              exact hK _ _ hC (Below.refl _ _) (by simp [SP.eq, GS])
            simp only [Act.put, List.setIfInBounds_toArray, List.set_cons_zero, List.set_cons_succ]
            refine relWalkG_cons rfl (fun x hC hd K hK => ?_) (fun v5 => ?_)
            · obtain rfl : v1 = _ := hd 1 (by kernel_rfl)
              obtain rfl : v4 = _ := hd 4 (by kernel_rfl)
              go_simp
              exact hK _ _ hC (Below.refl _ _) (by simp [SP.eq, GS])
            simp only [Act.put, List.setIfInBounds_toArray, List.set_cons_zero, List.set_cons_succ]
            refine relWalkG_cons rfl (fun x hC hd K hK => ?_) (fun v6 => ?_)
            · obtain rfl : v5 = _ := hd 5 (by kernel_rfl)
              go_simp
              exact hK _ _ hC (Below.refl _ _) rfl
            simp only [Act.put, List.setIfInBounds_toArray, List.set_cons_zero, List.set_cons_succ]
            refine relWalkG_cons rfl (fun x hC hd K hK => ?_) (fun v7 => ?_)
            · go_simp
              exact hK _ _ hC (Below.refl _ _) rfl
            simp only [Act.put, List.setIfInBounds_toArray, List.set_cons_zero, List.set_cons_succ]
            refine relWalkG_cons rfl (fun x hC hd K hK => ?_) (fun v8 => ?_)
            · go_simp
              exact hK _ _ hC (Below.refl _ _) rfl
            simp only [Act.put, List.setIfInBounds_toArray, List.set_cons_zero, List.set_cons_succ]
            refine relWalkG_cons rfl (fun x hC hd K hK => ?_) (fun v9 => ?_)
            · obtain rfl : v7 = _ := hd 7 (by kernel_rfl)
              obtain rfl : v8 = _ := hd 8 (by kernel_rfl)
              go_simp
              exact hK _ _ hC (Below.refl _ _) (by simp [SP.eq, GS])
            simp only [Act.put, List.setIfInBounds_toArray, List.set_cons_zero, List.set_cons_succ]
            refine relWalkG_cons rfl (fun x hC hd K hK => ?_) (fun v10 => ?_)
            · obtain rfl : v6 = _ := hd 6 (by kernel_rfl)
              obtain rfl : v9 = _ := hd 9 (by kernel_rfl)
              go_simp
              exact hK _ _ hC (Below.refl _ _) (by simp [SP.eq, GS])
            simp only [Act.put, List.setIfInBounds_toArray, List.set_cons_zero, List.set_cons_succ]
            refine relWalkG_cons rfl (fun x hC hd K hK => ?_) (fun v11 => ?_)
            · obtain rfl : v10 = _ := hd 10 (by kernel_rfl)
              go_simp
              exact hK _ _ hC (Below.refl _ _) rfl
            simp only [Act.put, List.setIfInBounds_toArray, List.set_cons_zero, List.set_cons_succ]
            refine relWalkG_cons rfl (fun x hC hd K hK => ?_) (fun v12 => ?_)
            · have u0 := (hC.cell (p := ⟨Z, _, none⟩) lZ).trans x0
              have u1 := (hC.cell (p := ⟨Z, _, none⟩) lZ).trans x1
              have u2 := (hC.cell (p := ⟨Z, _, none⟩) lZ).trans x2
              have u3 := (hC.cell (p := ⟨Z, _, none⟩) lZ).trans x3
              go_simp
              exact hK _ _ hC (Below.refl _ _) rfl
            simp only [Act.put, List.setIfInBounds_toArray, List.set_cons_zero, List.set_cons_succ]
            refine relWalkG_cons rfl (fun x hC hd K hK => ?_) (fun v13 => ?_)
            · go_simp
              exact hK _ _ hC (Below.refl _ _) rfl
            simp only [Act.put, List.setIfInBounds_toArray, List.set_cons_zero, List.set_cons_succ]
            refine relWalkG_cons rfl (fun x hC hd K hK => ?_) (fun v14 => ?_)
            · obtain rfl : v12 = _ := hd 12 (by kernel_rfl)
              obtain rfl : v13 = _ := hd 13 (by kernel_rfl)
              go_simp
              go_at_call 21
              refine (HH1.out.ct mark x hC).mono ?_
              rintro e w1 ⟨rfl, hb⟩; exact hK _ _ (bl_step hC hb) hb rfl
            simp only [Act.put, List.setIfInBounds_toArray, List.set_cons_zero, List.set_cons_succ]
            refine relWalkG_cons rfl (fun x hC hd K hK => ?_) (fun v15 => ?_)
            · have u0 := (hC.cell (p := ⟨Z, _, none⟩) lZ).trans x0
              have u1 := (hC.cell (p := ⟨Z, _, none⟩) lZ).trans x1
              have u2 := (hC.cell (p := ⟨Z, _, none⟩) lZ).trans x2
              have u3 := (hC.cell (p := ⟨Z, _, none⟩) lZ).trans x3
              go_simp
              exact hK _ _ hC (Below.refl _ _) rfl
            simp only [Act.put, List.setIfInBounds_toArray, List.set_cons_zero, List.set_cons_succ]
            refine relWalkG_cons rfl (fun x hC hd K hK => ?_) (fun v16 => ?_)
            · go_simp
              exact hK _ _ hC (Below.refl _ _) rfl
            simp only [Act.put, List.setIfInBounds_toArray, List.set_cons_zero, List.set_cons_succ]
            refine relWalkG_cons rfl (fun x hC hd K hK => ?_) (fun v17 => ?_)
            · obtain rfl : v15 = _ := hd 15 (by kernel_rfl)
              obtain rfl : v16 = _ := hd 16 (by kernel_rfl)
              go_simp
              go_at_call 22
              refine (HH1.out.rct mark x hC).mono ?_
              rintro e w1 ⟨rfl, hb⟩; exact hK _ _ (bl_step hC hb) hb rfl
            simp only [Act.put, List.setIfInBounds_toArray, List.set_cons_zero, List.set_cons_succ]
            refine relWalkG_cons rfl (fun x hC hd K hK => ?_) (fun v18 => ?_)
            · obtain rfl : v14 = _ := hd 14 (by kernel_rfl)
              obtain rfl : v17 = _ := hd 17 (by kernel_rfl)
              go_simp
              exact hK _ _ hC (Below.refl _ _) (by simp [SP.eq, GS])
            simp only [Act.put, List.setIfInBounds_toArray, List.set_cons_zero, List.set_cons_succ]
            refine relWalkG_cons rfl (fun x hC hd K hK => ?_) (fun v19 => ?_)
            · obtain rfl : v11 = _ := hd 11 (by kernel_rfl)
              obtain rfl : v18 = _ := hd 18 (by kernel_rfl)
              go_simp
              exact hK _ _ hC (Below.refl _ _) (by simp [SP.eq, GS])
            simp only [Act.put, List.setIfInBounds_toArray, List.set_cons_zero, List.set_cons_succ]
            refine relWalkG_cons rfl (fun x hC hd K hK => ?_) (fun v20 => ?_)
            · obtain rfl : v19 = _ := hd 19 (by kernel_rfl)
              go_simp
              exact hK _ _ hC (Below.refl _ _) rfl
            simp only [Act.put, List.setIfInBounds_toArray, List.set_cons_zero, List.set_cons_succ]
            refine relWalkG_cons rfl (fun x hC hd K hK => ?_) (fun v21 => ?_)
            · have u0 := (hC.cell (p := ⟨Z, _, none⟩) lZ).trans x0
              have u1 := (hC.cell (p := ⟨Z, _, none⟩) lZ).trans x1
              have u2 := (hC.cell (p := ⟨Z, _, none⟩) lZ).trans x2
              have u3 := (hC.cell (p := ⟨Z, _, none⟩) lZ).trans x3
              go_simp
              exact hK _ _ hC (Below.refl _ _) rfl
            simp only [Act.put, List.setIfInBounds_toArray, List.set_cons_zero, List.set_cons_succ]
            refine relWalkG_cons rfl (fun x hC hd K hK => ?_) (fun v22 => ?_)
            · obtain rfl : v21 = _ := hd 21 (by kernel_rfl)
              go_simp
              go_at_call 24
              refine (HH1.out.en x hC).mono ?_
              rintro e w1 ⟨v, rfl, hown, hb⟩; exact hK _ _ (bl_step hC hb) hb (own_ea hown)
            simp only [Act.put, List.setIfInBounds_toArray, List.set_cons_zero, List.set_cons_succ]
            refine relWalkG_cons rfl (fun x hC hd K hK => ?_) (fun v23 => ?_)
            · have u0 := (hC.cell (p := ⟨Z, _, none⟩) lZ).trans x0
              have u1 := (hC.cell (p := ⟨Z, _, none⟩) lZ).trans x1
              have u2 := (hC.cell (p := ⟨Z, _, none⟩) lZ).trans x2
              have u3 := (hC.cell (p := ⟨Z, _, none⟩) lZ).trans x3
              go_simp
              exact hK _ _ hC (Below.refl _ _) rfl
            simp only [Act.put, List.setIfInBounds_toArray, List.set_cons_zero, List.set_cons_succ]
            refine relWalkG_cons rfl (fun x hC hd K hK => ?_) (fun v24 => ?_)
            · obtain rfl : v23 = _ := hd 23 (by kernel_rfl)
              go_simp
              go_at_call 25
              refine (HH1.out.ren x hC).mono ?_
              rintro e w1 ⟨v, rfl, hown, hb⟩; exact hK _ _ (bl_step hC hb) hb (own_ea hown)
            simp only [Act.put, List.setIfInBounds_toArray, List.set_cons_zero, List.set_cons_succ]
            refine relWalkG_cons rfl (fun x hC hd K hK => ?_) (fun v25 => ?_)
            · have g1 : EA x Any v22 l := hd 22 (by kernel_rfl)
              have g2 : EA x Any v24 l := hd 24 (by kernel_rfl)
              go_simp
              go_at_call 23
              refine (sameEntries_w l _ _ Any x g1 g2 HH1.out.len).mono ?_
              rintro e w1 ⟨rfl, hb⟩; exact hK _ _ (bl_step hC hb) hb rfl
            simp only [Act.put, List.setIfInBounds_toArray, List.set_cons_zero, List.set_cons_succ]
            refine relWalkG_cons rfl (fun x hC hd K hK => ?_) (fun v26 => ?_)
            · obtain rfl : v20 = _ := hd 20 (by kernel_rfl)
              obtain rfl : v25 = _ := hd 25 (by kernel_rfl)
              go_simp
              exact hK _ _ hC (Below.refl _ _) (by simp [SP.eq, GS])
            simp only [Act.put, List.setIfInBounds_toArray, List.set_cons_zero, List.set_cons_succ]
            refine relWalkG_cons rfl (fun x hC hd K hK => ?_) (fun v27 => ?_)
            · obtain rfl : v26 = _ := hd 26 (by kernel_rfl)
              go_simp
              exact hK _ _ hC (Below.refl _ _) rfl
            simp only [Act.put, List.setIfInBounds_toArray, List.set_cons_zero, List.set_cons_succ]
            refine relWalkG_cons rfl (fun x hC hd K hK => ?_) (fun v28 => ?_)
            · go_simp
              go_at_call 26
              refine (awake_w x).mono ?_
              rintro e w1 ⟨rfl, hb⟩; exact hK _ _ (bl_step hC hb) hb rfl
            simp only [Act.put, List.setIfInBounds_toArray, List.set_cons_zero, List.set_cons_succ]
            refine relWalkG_cons rfl (fun x hC hd K hK => ?_) (fun v29 => ?_)
            · obtain rfl : v27 = _ := hd 27 (by kernel_rfl)
              obtain rfl : v28 = _ := hd 28 (by kernel_rfl)
              go_simp
              exact hK _ _ hC (Below.refl _ _) (by simp [SP.eq, GS])
            simp only [Act.put, List.setIfInBounds_toArray, List.set_cons_zero, List.set_cons_succ]
            refine relWalkG_nil ?_
            intro x' hC hG
            obtain rfl : v29 = _ := hG 29 (by omega)
            clear hG
            have HE := Lib.hid (bl_step HB1.out hC)
            go_wp2
            go_ret
            exact ⟨rfl, HE.out⟩
end Go.Proofs.Ytpoagdffpajdjaa
