/-
  The law RadixBuilds, by contracts.
-/
import Derived.Test.YtpoagdffpajdjaaRadBf
import Derived.Test.YtpoagdffpajdjaaRadTr
namespace Go.Proofs.Ytpoagdffpajdjaa
open Go.RowKit
set_option linter.unusedVariables false
set_option linter.unusedSimpArgs false

def bidxL : List Int := [0, 3, 4, 20, 255, 256, -1]
def TQ.num {b : Nat} : TQ b := ⟨fun v _ => ∃ y : Int, v = .int .i64 y, fun _ _ _ _ h => h⟩
def TQ.ent {b : Nat} : TQ b := ⟨fun v _ => ∃ i x m : Int, v = .agg #[.int .i64 i, .int .i64 x, .int .i64 m], fun _ _ _ _ h => h⟩
def TQ.one {b : Nat} (B : Nat) : TQ b := ⟨fun v w => ∃ (g : Nat) (i x m : Int), v = .slice (some ⟨g, 0, none⟩) 1 1 ∧ g ≠ b ∧ B ≤ g ∧ w.heap[g]? = some (.cells #[.int .i64 i, .int .i64 x, .int .i64 m] 48 (0, 0)), fun _ _ _ hg ⟨g, i, x, m, h1, h2, h0, h3⟩ => ⟨g, i, x, m, h1, h2, h0, gb_block hg h2 h3⟩⟩
set_option maxRecDepth 100000 in
set_option maxHeartbeats 2000000 in
theorem radixBuilds_walk (a0 : Option Addr) (len0 cap0 : Nat) (z0 : List Int) (w : World) (w0 : IsRow .i64 w a0 len0 cap0 z0) :
    Calls Try.prog 8 #[.slice a0 len0 cap0] w fun e w' => e = .returned (.bool true) ∧ Below w.heap.size w w' := by
  have HT0 := Lib.hid (Tp.start w0)
  obtain ⟨b, hb⟩ : ∃ b, b = w.heap.size := ⟨_, rfl⟩
  have hpt : (⟨w.heap.size, 0, none⟩ : Addr) = ⟨b, 0, none⟩ := by rw [hb]
  rw [← hb] at HT0
  clear w0
  go_enter Try.func8, Try.ntmps8
  go_upto_region 3 with fail
  go_cut [3, 4, 5] (fun s3 s4 s5 wx => ∃ k : Nat, s3 = .pointer (some ⟨b, 0, none⟩) ∧ s4 = .slice none 0 0 ∧ s5 = .int .i64 k ∧ k ≤ 5 ∧ Tp w b wx)
  case first =>
    go_wp2_with (go_at_call 12; refine (next_t _ w _ b (by omega) (by omega) HT0.out).mono ?_; rintro e w1 ⟨x, rfl, h0, h1, hT1, hg1⟩; obtain ⟨k, rfl⟩ := Int.eq_ofNat_of_zero_le h0)
    go_meet
    case rel => exact ⟨k, by rw [hb], rfl, rfl, by omega, hT1⟩
  case rest =>
    clear HT0 hpt hb
    obtain ⟨n, rfl, rfl, rfl, hn, hT⟩ := hcut
    have HT := Lib.hid hT
    clear hT
    go_wp2
    go_loopw [4, 5] (fun s4 s5 wx => ∃ (k : Nat) (l : List En), s5 = .int .i64 k ∧ k + l.length ≤ 5 ∧ wx.ownsRow (b + 1) 48 3 s4 l.length (ens l) ∧ Tp w b wx) (fun _ s5 _ => (intOf s5).toNat)
    case atStart => exact ⟨n, [], rfl, by simp; omega, World.ownsRow_nil _ _ _ _, HT.out⟩
    case round =>
      clear HT
      obtain ⟨k, l, rfl, hkl, hown, hT⟩ := hrel
      have Hown := Lib.hid hown
      have HT := Lib.hid hT
      obtain ⟨A3, c3, rfl⟩ := own_slice hown
      have hlt := hT.lt
      clear hown hT
      by_cases hk : 0 < k
      · have k1 : (0 : Int) < (k : Int) := by omega
        go_upto_region 6 with fail
        refine wp_region_tq (b := b) 13 54 [TQ.eq (.slice A3 l.length c3), TQ.row bidxL 3, TQ.eq (.pointer (some ⟨b, 0, none⟩)), TQ.nat 7, TQ.at_ bidxL 3, TQ.num, TQ.eq (.pointer (some ⟨b, 0, none⟩)), TQ.int 0 6, TQ.num, TQ.eq (.pointer (some ⟨b, 0, none⟩)), TQ.num, TQ.ent, TQ.one wr.heap.size] (by kernel_rfl) (by kernel_rfl) rfl HT.out ?_
        simp only [List.take_succ_cons, List.take_zero, List.drop_succ_cons, List.drop_zero]
        refine relWalk_cons (fun x hC hd K hK => ?_) (fun v0 => ?_)
        · go_simp
          exact hK _ _ hC (World.grownBy.refl _ _) rfl
        simp only [Act.put, List.setIfInBounds_toArray, List.set_cons_zero, List.set_cons_succ]
        refine relWalk_cons (fun x hC hd K hK => ?_) (fun v1 => ?_)
        · go_simp
          exact hK _ _ (hC.alloc _) (World.grownBy_alloc _ _ _) ⟨_, rfl, by have := hC.1.lt; omega, heap_alloc_new _ _⟩
        simp only [Act.put, List.setIfInBounds_toArray, List.set_cons_zero, List.set_cons_succ]
        refine relWalk_cons (fun x hC hd K hK => ?_) (fun v2 => ?_)
        · go_simp
          exact hK _ _ hC (World.grownBy.refl _ _) rfl
        simp only [Act.put, List.setIfInBounds_toArray, List.set_cons_zero, List.set_cons_succ]
        refine relWalk_cons (fun x hC hd K hK => ?_) (fun v3 => ?_)
        · obtain rfl : v2 = _ := hd 2 (by kernel_rfl)
          go_simp
          go_at_call 12
          refine (next_t _ _ x b (by omega) (by omega) hC.1).mono ?_
          rintro e w1 ⟨y, rfl, y0, y1, hT, hg⟩
          exact hK _ _ (hC.drew hT hg) hg ⟨y.toNat, by rw [Int.toNat_of_nonneg y0], by omega⟩
        simp only [Act.put, List.setIfInBounds_toArray, List.set_cons_zero, List.set_cons_succ]
        refine relWalk_cons (fun x hC hd K hK => ?_) (fun v4 => ?_)
        · obtain ⟨g, rfl, hn, hl⟩ := hd 1 (by kernel_rfl)
          obtain ⟨i, rfl, hi⟩ := hd 3 (by kernel_rfl)
          have hi' : (i : Int) < 7 := by omega
          rw [show bidxL.length = 7 from rfl]
          go_simp
          exact hK _ _ hC (World.grownBy.refl _ _) ⟨g, i, rfl, hi, hn, hl⟩
        simp only [Act.put, List.setIfInBounds_toArray, List.set_cons_zero, List.set_cons_succ]
        refine relWalk_cons (fun x hC hd K hK => ?_) (fun v5 => ?_)
        · obtain ⟨g, i, rfl, hi, hn, hl⟩ := hd 4 (by kernel_rfl)
          obtain ⟨y, hy, hc⟩ := row_at hl hi
          clear hy
          go_simp
          exact hK _ _ hC (World.grownBy.refl _ _) ⟨_, rfl⟩
        simp only [Act.put, List.setIfInBounds_toArray, List.set_cons_zero, List.set_cons_succ]
        refine relWalk_cons (fun x hC hd K hK => ?_) (fun v6 => ?_)
        · go_simp
          exact hK _ _ hC (World.grownBy.refl _ _) rfl
        simp only [Act.put, List.setIfInBounds_toArray, List.set_cons_zero, List.set_cons_succ]
        refine relWalk_cons (fun x hC hd K hK => ?_) (fun v7 => ?_)
        · obtain rfl : v6 = _ := hd 6 (by kernel_rfl)
          go_simp
          go_at_call 12
          refine (next_t _ _ x b (by omega) (by omega) hC.1).mono ?_
          rintro e w1 ⟨y, rfl, y0, y1, hT, hg⟩
          exact hK _ _ (hC.drew hT hg) hg ⟨y, rfl, y0, y1⟩
        simp only [Act.put, List.setIfInBounds_toArray, List.set_cons_zero, List.set_cons_succ]
        refine relWalk_cons (fun x hC hd K hK => ?_) (fun v8 => ?_)
        · obtain ⟨y, rfl, y0, y1⟩ := hd 7 (by kernel_rfl)
          have hw := w64 (x := y - 2) (by omega)
          go_simp
          exact hK _ _ hC (World.grownBy.refl _ _) ⟨_, rfl⟩
        simp only [Act.put, List.setIfInBounds_toArray, List.set_cons_zero, List.set_cons_succ]
        refine relWalk_cons (fun x hC hd K hK => ?_) (fun v9 => ?_)
        · go_simp
          exact hK _ _ hC (World.grownBy.refl _ _) rfl
        simp only [Act.put, List.setIfInBounds_toArray, List.set_cons_zero, List.set_cons_succ]
        refine relWalk_cons (fun x hC hd K hK => ?_) (fun v10 => ?_)
        · obtain rfl : v9 = _ := hd 9 (by kernel_rfl)
          go_simp
          go_at_call 12
          refine (next_t _ _ x b (by omega) (by omega) hC.1).mono ?_
          rintro e w1 ⟨y, rfl, y0, y1, hT, hg⟩
          exact hK _ _ (hC.drew hT hg) hg ⟨y, rfl⟩
        simp only [Act.put, List.setIfInBounds_toArray, List.set_cons_zero, List.set_cons_succ]
        refine relWalk_cons (fun x hC hd K hK => ?_) (fun v11 => ?_)
        · obtain ⟨i, rfl⟩ := hd 5 (by kernel_rfl)
          obtain ⟨y, rfl⟩ := hd 8 (by kernel_rfl)
          obtain ⟨m, rfl⟩ := hd 10 (by kernel_rfl)
          go_simp
          exact hK _ _ hC (World.grownBy.refl _ _) ⟨_, _, _, rfl⟩
        simp only [Act.put, List.setIfInBounds_toArray, List.set_cons_zero, List.set_cons_succ]
        refine relWalk_cons (fun x hC hd K hK => ?_) (fun v12 => ?_)
        · obtain ⟨i, y, m, rfl⟩ := hd 11 (by kernel_rfl)
          go_simp
          exact hK _ _ (hC.alloc _) (World.grownBy_alloc _ _ _) ⟨_, i, y, m, rfl, by have := hC.1.lt; omega, hC.2.size, heap_alloc_new _ _⟩
        simp only [Act.put, List.setIfInBounds_toArray, List.set_cons_zero, List.set_cons_succ]
        refine relWalk_nil ?_
        intro x hC hG
        obtain rfl : v0 = _ := hG 0 (by omega)
        obtain ⟨G, i, y, m, e12, hGb, hG1, hG2⟩ := hG 12 (by omega)
        obtain rfl : v12 = _ := e12
        have HC := Lib.hid hC
        have HG2 := Lib.hid hG2
        have Hx := Lib.hid (own_gb Hown.out hC.2 (by omega))
        have hsz := hC.2.size
        clear hG hC hG2
        obtain ⟨i0, hi, hz0, hz1, hz2⟩ := info_parts entry_info
        go_wp2_with (at_builtin; go_loud (refine wpList_append_lies _ rfl (.tmp 19) (.tmp 31) 41 rfl (b + 1) 48 i0 _ 3 24 Try.underlying41 hi hz0 hz1 hz2 rfl (by omega) _ l.length (ens l) rfl Hx.out ⟨G, 0, none⟩ 1 1 [.int .i64 i, .int .i64 y, .int .i64 m] rfl rfl (World.news_of_block HG2.out) (by simp [Value.oneCell']) (by omega) (by unfold maxLen; omega) (by omega) (by omega) _ rfl ?_); intro gg cap4 w4 hown4 hg4 hat4 hlt4)
        go_roundw
        case rel => exact ⟨k - 1, l ++ [(i, y, m)], by go_num, by rw [List.length_append]; simp; omega, ens_snoc hown4, HC.out.1.gb' hg4 (fun z hz => by have := (Hx.out.lt z hz).1; omega)⟩
        case measure => simp [intOf]; omega
      · obtain rfl : k = 0 := by omega
        have HB := Lib.hid HT.out.below
        have hE := EA.of_own (S := Any) Hown.out (fun _ _ => trivial)
        obtain ⟨c, err, hbi⟩ := BuildIs.ex l
        have h1 := fun w' (hb : Below wr.heap.size wr w') => build_w l _ Any Any c err w' hbi (by omega) (hE.step hb) (fun _ _ => trivial)
        have h2 := fun w' (hb : Below wr.heap.size wr w') => rBuild_w l _ Any Any c err w' hbi (by omega) (hE.step hb) (fun _ _ => trivial)
        clear hE hbi Hown HT
        obtain ⟨V, hV⟩ : ∃ V : World, V = wr := ⟨_, rfl⟩
        subst hV
        go_upto_region 7 with fail
        go_cut [6, 7] (fun sp sq wx => ∃ (B h : Nat), sp = .pointer (some ⟨B, 0, none⟩) ∧ sq = .int .i64 err ∧ TreeOk h c ∧ TR wx Any B h (cano h c) ∧ Below V.heap.size V wx)
        case first =>
          go_wp2_with (go_at_call 37; (with_reducible refine Calls.mono (h1 _ (Below.refl _ _)) ?_); rintro e w2 ⟨h', A', cap', rfl, ht', hc', hk', hb2⟩)
          go_meet
          case rel => exact ⟨_, h', rfl, rfl, ht', TR.new (cano_ml _ _) hc' hk', bl_alloc hb2 _⟩
        case rest =>
          clear h1
          obtain ⟨B1, t1, rfl, rfl, ok1, hT1, hb1⟩ := hcut
          have HT1 := Lib.hid hT1
          have HB1 := Lib.hid hb1
          clear hT1 hb1
          go_upto_region 8 with fail
          go_cut [8, 9] (fun sp sq wx => ∃ (B h : Nat), sp = .pointer (some ⟨B, 0, none⟩) ∧ sq = .int .i64 err ∧ TreeOk h c ∧ TR wx Any B h (cano h c) ∧ TR wx Any B1 t1 (cano t1 c) ∧ Below V.heap.size V wx)
          case first =>
            go_wp2_with (go_at_call 38; (with_reducible refine Calls.mono (h2 _ HB1.out) ?_); rintro e w2 ⟨h', A', cap', rfl, ht', hc', hk', hb2⟩)
            go_meet
            case rel => exact ⟨_, h', rfl, rfl, ht', TR.new (cano_ml _ _) hc' hk', (HT1.out.step hb2).alloc _, bl_alloc (bl_step HB1.out hb2) _⟩
          case rest =>
            clear h2 HT1 HB1
            obtain ⟨B2, t2, rfl, rfl, ok2, hT2, hT1, hb2⟩ := hcut
            obtain rfl := ok2.uniq ok1
            have HBB := Lib.hid (bl_step HB.out hb2)
            obtain ⟨A1, d1, g1, m1, l1, k1⟩ := hT1
            obtain ⟨A2, d2, g2, m2, l2, k2⟩ := hT2
            have hsm := same_w t2 c A1 A2 d1 d2 wc l1 l2 k1 k2
            have x0 := cells_at g1 0; have x1 := cells_at g1 1; have x2 := cells_at g1 2; have x3 := cells_at g1 3; simp only [List.getElem?_toArray, List.getElem?_cons_zero, List.getElem?_cons_succ] at x0 x1 x2 x3
            have y0 := cells_at g2 0; have y1 := cells_at g2 1; have y2 := cells_at g2 2; have y3 := cells_at g2 3; simp only [List.getElem?_toArray, List.getElem?_cons_zero, List.getElem?_cons_succ] at y0 y1 y2 y3
            clear g1 g2 m1 m2 l1 l2 k1 k2 hb2
            go_wp2_with (first
              | (go_at_call 36; (with_reducible refine Calls.mono hsm ?_); rintro e w3 ⟨rfl, hb3⟩)
              | (go_at_call 26; (with_reducible refine Calls.mono (awake_w _) ?_); rintro e w9 ⟨rfl, hb9⟩))
            go_ret
            exact ⟨rfl, bl_step HBB.out (bl_step hb3 hb9)⟩
end Go.Proofs.Ytpoagdffpajdjaa
