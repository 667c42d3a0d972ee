/-
  pagecachemade's Tree, by contract: a valid tree comes back.
-/
import Derived.Test.YtpoagdffpajdjaaRadX
import Derived.Test.YtpoagdffpajdjaaTQ
namespace Go.Proofs.Ytpoagdffpajdjaa
open Go.RowKit
set_option linter.unusedVariables false
set_option linter.unusedSimpArgs false

theorem entry_size : (Try.prog.info? 48).map (·.size) = some 3 := by kernel_rfl
/-- A tree comes back, in memory of the call's own. -/
def RetTp (W : World) (b : Nat) (w : World) (e : Ending) (w' : World) : Prop := ∃ (h : Nat) (c : Cn) (A : Option Addr) (cap : Nat), e = .returned (trV h A (cano h c).kids.length cap (cano h c).val (cano h c).marks) ∧ leafy c ∧ TreeOk h c ∧ (cano h c).kids.length ≤ cap ∧ NK w' (fun z => w.heap.size ≤ z) A (cano h c).kids ∧ Tp W b w'
def treeL : List Int := [0, 1, 3, 4, 5, 15, 16, 17, 63, 64, 200, 255]
theorem treeL_range : ∀ y ∈ treeL, 0 ≤ y ∧ y < 256 := by decide
/-- An entry as it is drawn. -/
def enOk (i v m : Int) : Prop := 0 ≤ i ∧ i < 256 ∧ leafV (v, m) ∧ v ≠ 0
def TQ.en {b : Nat} : TQ b := ⟨fun v _ => ∃ i x m : Int, v = .agg #[.int .i64 i, .int .i64 x, .int .i64 m] ∧ enOk i x m, fun _ _ _ _ h => h⟩
theorem leafy_cOf {l : List En} (h : ∀ e ∈ l, leafV e.2) : leafy (cOf l) := fun i => by
  unfold cOf lkP
  cases hf : l.find? (fun e => e.1 == (i : Int)) with
  | none => exact .inl rfl
  | some e => exact h e (List.mem_of_find?_eq_some hf)
def okL (l : List En) : Prop := ∀ e ∈ l, enOk e.1 e.2.1 e.2.2
theorem okL.good {l : List En} (h : okL l) : Good l := fun e he => ⟨(h e he).1, (h e he).2.1, fun e2 => (h e he).2.2.2 (by rw [e2])⟩
theorem okL.leafy {l : List En} (h : okL l) : leafy (cOf l) := leafy_cOf fun e he => (h e he).2.2.1
/-- What is known in a round of Tree. -/
structure MS (W w : World) (b Z : Nat) (i y m : Int) (u : Value) (l : List En) (wx : World) : Prop where
  z : wx.heap[Z]? = some (.cells #[.int .i64 i, .int .i64 y, .int .i64 m] 48 (0, 0))
  ok : enOk i y m
  own : wx.ownsRow (w.heap.size + 1) 48 3 u l.length (ens l)
  ne : u.ownBlock ≠ some Z
  zb : Z ≠ b
  zw : w.heap.size < Z
  bw : b < w.heap.size
  r : wx.heap[w.heap.size]? = some (.cells #[.int .i64 0, .slice none 0 0, .int .i64 0, .int .i64 0] 28 (0, 0))
  tp : Tp W b wx
theorem MS.gb {W w wx wy : World} {b Z : Nat} {i y m : Int} {u : Value} {l : List En} (h : MS W w b Z i y m u l wx) (hg : wx.grownBy wy (some b)) (hT : Tp W b wy) : MS W w b Z i y m u l wy :=
  { h with z := gb_block hg h.zb h.z, own := own_gb h.own hg (by have := h.bw; omega), r := gb_block hg (by have := h.bw; omega) h.r, tp := hT }
theorem MS.step {W w wx wy : World} {b Z : Nat} {i y m : Int} {u : Value} {l : List En} (h : MS W w b Z i y m u l wx) (hb : Below wx.heap.size wx wy) : MS W w b Z i y m u l wy := h.gb (gb_of_below hb _) (h.tp.step hb)
theorem MS.put {W w wx wy : World} {b Z : Nat} {i y m i' y' m' : Int} {u : Value} {l : List En} (h : MS W w b Z i y m u l wx) (hg : wx.grownBy wy (some Z)) (hz : wy.heap[Z]? = some (.cells #[.int .i64 i', .int .i64 y', .int .i64 m'] 48 (0, 0))) (hok : enOk i' y' m') : MS W w b Z i' y' m' u l wy :=
  { h with z := hz, ok := hok, own := own_gb' h.own hg (fun k hk e => by injection e with e; exact h.ne (e ▸ hk)), r := (hg.block _ (bk_lt h.r) (fun e => by injection e with e; have := h.zw; omega)).trans h.r, tp := h.tp.gb hg (by have := h.bw; have := h.zw; omega) }
theorem gb_set2 (w : World) (Z : Nat) (a c : Value) : w.grownBy ((w.setCell ⟨Z, 1, none⟩ a).setCell ⟨Z, 2, none⟩ c) (some Z) := grownBy_trans (grownBy_setCell w ⟨Z, 1, none⟩ a) (grownBy_setCell _ ⟨Z, 2, none⟩ c)
set_option maxRecDepth 100000 in
set_option maxHeartbeats 4000000 in
theorem tree_t (W w : World) (b : Nat) (hT : Tp W b w) : Calls Try.prog 27 #[.pointer (some ⟨b, 0, none⟩)] w (RetTp W b w) := by
  have hbw := hT.lt
  have hR0 := heap_alloc_at w (.cells #[.int .i64 0, .slice none 0 0, .int .i64 0, .int .i64 0] 28)
  have HT0 := Lib.hid (hT.alloc (.cells #[.int .i64 0, .slice none 0 0, .int .i64 0, .int .i64 0] 28))
  have HR0 := Lib.hid hR0
  clear hT hR0
  go_enter Try.func27, Try.ntmps27
  go_wp2_with (go_at_call 12; refine (next_t _ W _ _ (by omega) (by omega) HT0.out).mono ?_; rintro e w1 ⟨x, rfl, h0, h1, hT1, hg1⟩)
  obtain ⟨n, rfl⟩ := Int.eq_ofNat_of_zero_le h0
  have HR1 := Lib.hid (gb_block hg1 (by omega) HR0.out)
  have hs1 := hg1.size
  have HT1 := Lib.hid hT1
  have hs1' : w.heap.size < w1.heap.size := by simp at hs1; omega
  clear hT1 hg1 HT0 HR0 hs1
  go_loopw [3, 4] (fun s3 s4 wx => ∃ (k : Nat) (l : List En), s4 = .int .i64 k ∧ k + l.length ≤ 6 ∧ okL l ∧ wx.ownsRow (w.heap.size + 1) 48 3 s3 l.length (ens l) ∧ wx.heap[w.heap.size]? = some (.cells #[.int .i64 0, .slice none 0 0, .int .i64 0, .int .i64 0] 28 (0, 0)) ∧ Tp W b wx ∧ w.heap.size < wx.heap.size) (fun _ s4 _ => (intOf s4).toNat)
  case atStart => exact ⟨n, [], rfl, by simp; omega, (fun e he => by cases he), World.ownsRow_nil _ _ _ _, HR1.out, HT1.out, hs1'⟩
  case round =>
    clear HR1 HT1 hs1' h0 h1
    obtain ⟨k, l, rfl, hkl, hok, hown, hR, hT, hsz⟩ := hrel
    have HOK := Lib.hid hok
    have Hown := Lib.hid hown
    have HR := Lib.hid hR
    have HT := Lib.hid hT
    clear hok hown hR hT
    by_cases hlt : 0 < k
    · have k1 : (0 : Int) < (k : Int) := by omega
      go_upto_region 5 with fail
      go_cut [5] (fun s5 wx => ∃ (Z : Nat) (i v m : Int), s5 = .pointer (some ⟨Z, 0, none⟩) ∧ Z ≠ b ∧ w.heap.size < Z ∧ wx.heap[Z]? = some (.cells #[.int .i64 i, .int .i64 v, .int .i64 m] 48 (0, 0)) ∧ enOk i v m ∧ u3.ownBlock ≠ some Z ∧ wx.ownsRow (w.heap.size + 1) 48 3 u3 l.length (ens l) ∧ wx.heap[w.heap.size]? = some (.cells #[.int .i64 0, .slice none 0 0, .int .i64 0, .int .i64 0] 28 (0, 0)) ∧ Tp W b wx)
      case first =>
        obtain ⟨W0, hW0⟩ : ∃ W0 : World, W0 = wr := ⟨_, rfl⟩
        subst hW0
        have HOL := Lib.hid (fun z hz => (Hown.out.lt z hz).2)
        refine wp_region_tq (b := b) 12 58 [TQ.row treeL 3, TQ.eq (.pointer (some ⟨b, 0, none⟩)), TQ.nat 12, TQ.at_ treeL 3, TQ.int 0 256, TQ.eq (.pointer (some ⟨b, 0, none⟩)), TQ.int 0 9, TQ.int 1 10, TQ.eq (.pointer (some ⟨b, 0, none⟩)), TQ.int 0 8, TQ.en, TQ.box W0.heap.size (.cells #[.int .i64 0, .int .i64 0, .int .i64 0] 48 (0, 0))] (by kernel_rfl) (by kernel_rfl) rfl HT.out ?_
        simp only [List.take_succ_cons, List.take_zero, List.drop_succ_cons, List.drop_zero]
        refine relWalk_cons (fun x hC hd K hK => ?_) (fun v0 => ?_)
        · go_simp
          exact hK _ _ (hC.alloc _) (World.grownBy_alloc _ _ _) ⟨_, rfl, by have := hC.1.lt; omega, heap_alloc_new _ _⟩
        simp only [Act.put, List.setIfInBounds_toArray, List.set_cons_zero, List.set_cons_succ]
        refine relWalk_cons (fun x hC hd K hK => ?_) (fun v1 => ?_)
        · go_simp
          exact hK _ _ hC (World.grownBy.refl _ _) rfl
        simp only [Act.put, List.setIfInBounds_toArray, List.set_cons_zero, List.set_cons_succ]
        refine relWalk_cons (fun x hC hd K hK => ?_) (fun v2 => ?_)
        · obtain rfl : v1 = _ := hd 1 (by kernel_rfl)
          go_simp
          go_at_call 12
          refine (next_t _ _ x b (by omega) (by omega) hC.1).mono ?_
          rintro e w1 ⟨y, rfl, y0, y1, hT, hg⟩
          exact hK _ _ (hC.drew hT hg) hg ⟨y.toNat, by rw [Int.toNat_of_nonneg y0], by omega⟩
        simp only [Act.put, List.setIfInBounds_toArray, List.set_cons_zero, List.set_cons_succ]
        refine relWalk_cons (fun x hC hd K hK => ?_) (fun v3 => ?_)
        · obtain ⟨g, rfl, hn, hl⟩ := hd 0 (by kernel_rfl)
          obtain ⟨i, rfl, hi⟩ := hd 2 (by kernel_rfl)
          have hi' : (i : Int) < 12 := by omega
          rw [show treeL.length = 12 from rfl]
          go_simp
          exact hK _ _ hC (World.grownBy.refl _ _) ⟨g, i, rfl, hi, hn, hl⟩
        simp only [Act.put, List.setIfInBounds_toArray, List.set_cons_zero, List.set_cons_succ]
        refine relWalk_cons (fun x hC hd K hK => ?_) (fun v4 => ?_)
        · obtain ⟨g, i, rfl, hi, hn, hl⟩ := hd 3 (by kernel_rfl)
          obtain ⟨y, hy, hc⟩ := row_at hl hi
          have HY := Lib.hid (treeL_range y hy)
          clear hy
          go_simp
          exact hK _ _ hC (World.grownBy.refl _ _) ⟨_, rfl, HY.out.1, HY.out.2⟩
        simp only [Act.put, List.setIfInBounds_toArray, List.set_cons_zero, List.set_cons_succ]
        refine relWalk_cons (fun x hC hd K hK => ?_) (fun v5 => ?_)
        · go_simp
          exact hK _ _ hC (World.grownBy.refl _ _) rfl
        simp only [Act.put, List.setIfInBounds_toArray, List.set_cons_zero, List.set_cons_succ]
        refine relWalk_cons (fun x hC hd K hK => ?_) (fun v6 => ?_)
        · obtain rfl : v5 = _ := hd 5 (by kernel_rfl)
          go_simp
          go_at_call 12
          refine (next_t _ _ x b (by omega) (by omega) hC.1).mono ?_
          rintro e w1 ⟨y, rfl, y0, y1, hT, hg⟩
          exact hK _ _ (hC.drew hT hg) hg ⟨y, rfl, y0, y1⟩
        simp only [Act.put, List.setIfInBounds_toArray, List.set_cons_zero, List.set_cons_succ]
        refine relWalk_cons (fun x hC hd K hK => ?_) (fun v7 => ?_)
        · obtain ⟨y, rfl, y0, y1⟩ := hd 6 (by kernel_rfl)
          have hw := w64 (x := 1 + y) (by omega)
          go_simp
          exact hK _ _ hC (World.grownBy.refl _ _) ⟨_, rfl, by omega, by omega⟩
        simp only [Act.put, List.setIfInBounds_toArray, List.set_cons_zero, List.set_cons_succ]
        refine relWalk_cons (fun x hC hd K hK => ?_) (fun v8 => ?_)
        · go_simp
          exact hK _ _ hC (World.grownBy.refl _ _) rfl
        simp only [Act.put, List.setIfInBounds_toArray, List.set_cons_zero, List.set_cons_succ]
        refine relWalk_cons (fun x hC hd K hK => ?_) (fun v9 => ?_)
        · obtain rfl : v8 = _ := hd 8 (by kernel_rfl)
          go_simp
          go_at_call 12
          refine (next_t _ _ x b (by omega) (by omega) hC.1).mono ?_
          rintro e w1 ⟨y, rfl, y0, y1, hT, hg⟩
          exact hK _ _ (hC.drew hT hg) hg ⟨y, rfl, y0, y1⟩
        simp only [Act.put, List.setIfInBounds_toArray, List.set_cons_zero, List.set_cons_succ]
        refine relWalk_cons (fun x hC hd K hK => ?_) (fun v10 => ?_)
        · obtain ⟨i, rfl, i0, i1⟩ := hd 4 (by kernel_rfl)
          obtain ⟨y, rfl, y0, y1⟩ := hd 7 (by kernel_rfl)
          obtain ⟨m, rfl, m0, m1⟩ := hd 9 (by kernel_rfl)
          go_simp
          exact hK _ _ hC (World.grownBy.refl _ _) ⟨_, _, _, rfl, i0, i1, .inr ⟨by show y ≠ 0; omega, m0, by show m ≤ 7; omega, .inl (by show 0 < y; omega)⟩, by omega⟩
        simp only [Act.put, List.setIfInBounds_toArray, List.set_cons_zero, List.set_cons_succ]
        refine relWalk_cons (fun x hC hd K hK => ?_) (fun v11 => ?_)
        · go_simp
          exact hK _ _ (hC.alloc _) (World.grownBy_alloc _ _ _) ⟨_, rfl, by have := hC.1.lt; omega, hC.2.size, heap_alloc_new _ _⟩
        simp only [Act.put, List.setIfInBounds_toArray, List.set_cons_zero, List.set_cons_succ]
        refine relWalk_nil ?_
        intro x hC hG
        obtain ⟨i, y, m, e10, hen⟩ := hG 10 (by omega)
        obtain rfl : v10 = _ := e10
        obtain ⟨Z, e11, hZb, hZ1, hZ⟩ := hG 11 (by omega)
        obtain rfl : v11 = _ := e11
        have HC := Lib.hid hC
        have HZ := Lib.hid hZ
        have HEN := Lib.hid hen
        clear hG hC hZ hen
        go_wp2_with (refine wpList_store_rowTo rfl 48 (.tmp 5) (.tmp 24) rfl rfl Z #[.int .i64 i, .int .i64 y, .int .i64 m] rfl rfl 48 _ HZ.out entry_size rfl (by simp [Value.oneCell']) ?_)
        go_meet
        case rel => exact ⟨Z, i, y, m, rfl, hZb, by omega, setRow_heap _ _ _ _ _ _ HZ.out, HEN.out, (fun e => by have := HOL.out Z e; omega), own_gb' (own_gb Hown.out HC.out.2 (by omega)) (gb_setRow _ _ _) (fun k hk e => by injection e with e; have := HOL.out k hk; omega), (setRow_other _ _ _ _ (by omega)).trans (gb_block HC.out.2 (by omega) HR.out), HC.out.1.gb (gb_setRow _ _ _) (by omega)⟩
      case rest =>
        clear HR HT Hown
        obtain ⟨Z, i, y, m, rfl, hZb, hZw, hZ, hen, hne, hown, hR, hT⟩ := hcut
        have HM := Lib.hid (show MS W w b Z i y m u3 l wc from ⟨hZ, hen, hown, hne, hZb, hZw, hbw, hR, hT⟩)
        clear hown hR hT hZ hen hne
        go_upto_region 6 with fail
        go_cut [27] (fun s27 wx => ∃ t, s27 = .bool t ∧ MS W w b Z i y m u3 l wx)
        case first =>
          go_wp2_with (go_at_call 12; refine (next_t _ W _ _ (by omega) (by omega) HM.out.tp).mono ?_; rintro e w1 ⟨x, rfl, h0, h1, hT1, hg1⟩)
          go_meet
          case rel => exact ⟨_, rfl, HM.out.gb hg1 hT1⟩
        case rest =>
          clear HM
          obtain ⟨t, rfl, hM⟩ := hcut
          have HM := Lib.hid hM
          clear hM
          go_upto_if 27 with fail
          go_cut [] (fun wx => ∃ i y m, MS W w b Z i y m u3 l wx)
          case first =>
            cases t with
            | false =>
              go_wp2
              go_meet
              case rel => exact ⟨_, _, _, HM.out⟩
            | true =>
              go_wp2_with ((go_at_call 12; refine (next_t _ W _ _ (by omega) (by omega) HM.out.tp).mono ?_; rintro e w1 ⟨x, rfl, h0, h1, hT1, hg1⟩); have HM1 := Lib.hid (HM.out.gb hg1 hT1); have x0 := cells_at HM1.out.z 0; have x1 := cells_at HM1.out.z 1; have x2 := cells_at HM1.out.z 2; simp only [List.getElem?_toArray, List.getElem?_cons_zero, List.getElem?_cons_succ] at x0 x1 x2; have f1 := free_at HM1.out.z 1; have f2 := free_at HM1.out.z 2)
              go_meet
              case rel =>
                have h00 := set_same (i := 2) (set_same (i := 1) HM1.out.z (.int .i64 (-1 - x))) (.int .i64 0)
                refine ⟨_, -1 - x, 0, HM1.out.put (gb_set2 _ _ _ _) (by simpa using h00) ⟨HM1.out.ok.1, HM1.out.ok.2.1, .inr ⟨by show -1 - x ≠ 0; omega, by show (0 : Int) ≤ 0; omega, by show (0 : Int) ≤ 7; omega, .inr rfl⟩, by omega⟩⟩
          case rest =>
            clear HM
            obtain ⟨i, y, m, hM⟩ := hcut
            have HM := Lib.hid hM
            clear hM
            have hll : l.length ≤ 6 := by omega
            go_upto_region 9 with fail
            go_cut [7] (fun s7 wx => s7 = .int .i64 0 ∧ MS W w b Z i y m u3 l wx)
            case first =>
              go_wp2
              go_meet
              case rel => exact ⟨rfl, HM.out⟩
            case rest =>
              clear HM
              obtain ⟨rfl, hM⟩ := hcut
              have HM := Lib.hid hM
              have hown := hM.own
              obtain ⟨A3, c3, rfl⟩ := own_slice hown
              clear hM hown
              go_upto_block 2 with fail
              go_cut [6, 7] (fun s6 s7 wx => ∃ t, s6 = .bool t ∧ MS W w b Z i y m (.slice A3 l.length c3) l wx)
              case first =>
                go_wp2
                go_loopw [6, 7] (fun s6 s7 wx => ∃ (q : Nat) (t : Bool), q ≤ l.length ∧ s7 = .int .i64 q ∧ s6 = .bool t ∧ MS W w b Z i y m (.slice A3 l.length c3) l wx) (fun _ s7 _ => l.length - (intOf s7).toNat)
                case atStart => exact ⟨0, false, by omega, rfl, rfl, HM.out⟩
                case round =>
                  clear HM
                  obtain ⟨q, t, hq, rfl, rfl, hM⟩ := hrel
                  have HM := Lib.hid hM
                  have hEA := EA.of_own (S := Any) hM.own (fun _ _ => trivial)
                  have HE := Lib.hid hEA
                  have x0 := cells_at hM.z 0; have x1 := cells_at hM.z 1; have x2 := cells_at hM.z 2; simp only [List.getElem?_toArray, List.getElem?_cons_zero, List.getElem?_cons_succ] at x0 x1 x2
                  have lz := bk_lt hM.z
                  clear hM hEA
                  by_cases hlt' : q < l.length
                  · obtain ⟨bb, o, cap', d, s, c', e0, _, _, hbl, he, c0, c1, c2⟩ := HE.out.at_ hlt'
                    injection e0 with e0 _ e2
                    subst e0
                    have q0 : (0 : Int) ≤ (q : Int) := by omega
                    have q1 : (q : Int) < (l.length : Int) := by omega
                    clear he e2 c1 c2 x1 x2
                    go_upto_region 12 with fail
                    cases t with
                    | true =>
                      go_quiet (fail)
                      go_wp2
                      go_roundw
                      case rel => exact ⟨q + 1, true, by omega, by go_num, rfl, HM.out.step (below_drewN (Below.refl _ _) _)⟩
                      case measure => simp [intOf]; omega
                    | false =>
                      go_quiet (fail)
                      go_wp2
                      go_roundw
                      case rel => exact ⟨q + 1, _, by omega, by go_num, rfl, HM.out.step (below_drewN (Below.refl _ _) _)⟩
                      case measure => simp [intOf]; omega
                  · obtain rfl : q = l.length := by omega
                    go_wp2
                    go_meet
                    case rel => exact ⟨_, rfl, HM.out⟩
              case rest =>
                clear HM
                obtain ⟨t, rfl, hM⟩ := hcut
                have HM := Lib.hid hM
                have x0 := cells_at hM.z 0; have x1 := cells_at hM.z 1; have x2 := cells_at hM.z 2; simp only [List.getElem?_toArray, List.getElem?_cons_zero, List.getElem?_cons_succ] at x0 x1 x2
                have lr := bk_lt hM.r
                clear hM
                cases t with
                | true =>
                  go_wp2
                  go_roundw
                  case rel => exact ⟨k - 1, l, by go_num, by omega, HOK.out, HM.out.own, HM.out.r, HM.out.tp, lr⟩
                  case measure => simp [intOf]; omega
                | false =>
                  obtain ⟨i0, hi, hz0, hz1, hz2⟩ := info_parts entry_info
                  go_wp2_with (at_builtin; go_loud (refine wpList_append_lies _ rfl (.tmp 52) (.tmp 54) 41 rfl (w.heap.size + 1) 48 i0 _ 3 24 Try.underlying41 hi hz0 hz1 hz2 rfl (by omega) _ l.length (ens l) rfl (own_step HM.out.own (bl_alloc (Below.refl _ _) _)) ⟨_, 0, none⟩ 1 1 [.int .i64 i, .int .i64 y, .int .i64 m] rfl rfl (World.news_of_block (heap_at_new _ _ _ (by first | rfl | simp))) (by simp [Value.oneCell']) (by omega) (by unfold maxLen; omega) (by omega) (by simp; omega) _ rfl ?_); intro gg cap4 w4 hown4 hg4 hat4 hlt4)
                  go_roundw
                  case rel =>
                    have hM := HM.out.step (bl_alloc (Below.refl _ _) (.cells #[.int .i64 i, .int .i64 y, .int .i64 m] 48))
                    have hown := hM.own
                    have hg : ∀ z, (Value.slice A3 l.length c3).ownBlock = some z → w.heap.size + 1 ≤ z := fun z hz => (hown.lt z hz).1
                    refine ⟨k - 1, l ++ [(i, y, m)], by go_num, by rw [List.length_append]; simp; omega, fun e he => ?_, ens_snoc hown4, (hg4.block _ (by simp; omega) (fun e => by have := hg _ e.symm; omega)).trans hM.r, ?_, by have := hg4.size; simp at this; omega⟩
                    · rcases List.mem_append.1 he with he | he
                      · exact HOK.out e he
                      · simp at he; subst he; exact HM.out.ok
                    · exact hM.tp.gb' hg4 (fun z hz => by have := hg z hz; omega)
                  case measure => simp [intOf]; omega
    · obtain rfl : k = 0 := by omega
      have HE := Lib.hid (EA.of_own (S := Any) Hown.out (fun _ _ => trivial))
      have hma := fun w' (hb : Below wr.heap.size wr w') => made_w l u3 (fun z => w.heap.size < z) Any w' HOK.out.good (by omega) (HE.out.step hb) (fun z hz => by have := hb.size; omega)
      have HLF := Lib.hid HOK.out.leafy
      have HTB := Lib.hid HT.out.below
      go_wp2_with (first
        | (go_at_call 54; (with_reducible refine Calls.mono (hma _ (Below.refl _ _)) ?_); rintro e w2 ⟨h', A', cap', rfl, ht', hc', hk', hb2⟩; have HR2 := Lib.hid (bk_step HR.out hb2); have HT2 := Lib.hid (HT.out.step hb2); have HK2 := Lib.hid hk')
        | (refine wpList_store_rowTo rfl 28 (.tmp 2) (.tmp 57) rfl rfl (w.heap.size) #[.int .i64 (h' : Int), .slice A' (cano h' (cOf l)).kids.length cap', .int .i64 (cano h' (cOf l)).val, .int .i64 (cano h' (cOf l)).marks] rfl rfl 28 _ (HR2.out) tree_size rfl (tree_one _ _ _ _ _ _) ?_))
      show bodyPost Try.prog Try.f27 _ _ _ _
      refine bodyPost_ret (tree_res rfl _ _ w.heap.size _ _ _ _ _ _ rfl (setRow_heap _ _ _ _ _ _ HR2.out)) rfl ?_
      exact ⟨h', cOf l, A', cap', rfl, HLF.out, ht', hc', (HK2.out.kept (by simp [World.setRow]) (fun z hz _ => setRow_other _ _ _ _ (by omega))).weak fun _ _ h => by omega, HT2.out.gb (gb_setRow _ _ _) hbw⟩

end Go.Proofs.Ytpoagdffpajdjaa
