/-
  The sectors that the law InodeCodes draws, by contract.
-/
import Derived.Test.YtcgfffkfmnbneaaIno8
import Derived.Deep.CutBlock
namespace Go.Proofs.Ytcgfffkfmnbneaa
open Go.RowKit
set_option linter.unusedVariables false
set_option linter.unusedSimpArgs false

/-- A string is drawn. -/
def DrewStr (W : World) (b : Nat) (w : World) (e : Ending) (w' : World) : Prop := ∃ s : ByteArray, e = .returned (.string s) ∧ s.size ≤ 16 ∧ Tp W b w' ∧ w.grownBy w' (some b)
theorem encS_size (q s b f : Int) : (encS q s b f).size ≤ 8 := by
  unfold encS
  split
  · show 8 ≤ 8; omega
  · show 0 ≤ 8; omega
theorem toS_size (o n : ByteArray) (k : Int) : (toS o n k).size ≤ 16 := by
  unfold toS
  split
  · split
    · simp; omega
    · split
      · simp; omega
      · show 0 ≤ 16; omega
  · show 0 ≤ 16; omega

theorem only_of {a w : World} {row : Option Nat} (h : Below a.heap.size a w) : a.grownBy w row := ⟨h.os, h.tape, h.output, h.size, fun i hi _ => h.block i hi⟩
/-- Block g begins with n bytes that may be written. -/
def BAt (w : World) (g n : Nat) : Prop := ∀ j, j < n → (∃ v : Int, w.cell? ⟨g, j, none⟩ = some (.int .u8 v)) ∧ w.frozen? ⟨g, j, none⟩ = false
theorem BAt.grown {w w' : World} {g n b : Nat} (hg : w.grownBy w' (some b)) (hn : g ≠ b) (h : BAt w g n) : BAt w' g n := fun j hj => by
  obtain ⟨⟨v, hv⟩, hf⟩ := h j hj
  have hl := World.block_lt_of_cell? w ⟨g, j, none⟩ hv
  exact ⟨⟨v, (World.cell?_of_block (a := ⟨g, j, none⟩) (hg.block g hl (by simpa using hn))).trans hv⟩, (World.frozen?_of_block (a := ⟨g, j, none⟩) (hg.block g hl (by simpa using hn))).trans hf⟩
theorem BAt.set {w : World} {g n i : Nat} (h : BAt w g n) (y : Int) : BAt (w.setCell ⟨g, i, none⟩ (.int .u8 y)) g n := fun j hj => by
  obtain ⟨⟨v, hv⟩, hf⟩ := h j hj
  refine ⟨?_, by rw [World.frozen?_setCell]; exact hf⟩
  by_cases hij : i = j
  · subst hij
    exact ⟨y, World.cell?_setCell_same _ _ _ hv⟩
  · exact ⟨v, (World.cell?_setCell_other _ _ _ _ (by intro e; injection e with _ e2; exact hij e2)).trans hv⟩
theorem BAt.conv {w : World} {g n : Nat} (h : BAt w g n) (c : Nat) : ∃ t : ByteArray, t.size = n ∧ (convert 47 9 (.slice (some ⟨g, 0, none⟩) n c)).run Try.prog w = .ok (.string t) w := by
  obtain ⟨ns, hns, hc⟩ : ∃ ns : List Int, ns.length = n ∧ ∀ j u, (ns.map (Value.int .u8))[j]? = some u → w.cell? ((⟨g, 0, none⟩ : Addr).add j) = some u := by
    refine ⟨(List.range n).map fun j => if hj : j < n then Classical.choose (h j hj).1 else 0, by simp, fun j u hu => ?_⟩
    have e : (⟨g, 0, none⟩ : Addr).add j = ⟨g, j, none⟩ := by
      unfold Addr.add
      split
      · rename_i h; subst h; rfl
      · simp
    rw [e]
    have hj : j < n := by
      have := (List.getElem?_eq_some_iff.1 hu).1
      simpa using this
    rw [Classical.choose_spec (h j hj).1]
    simp [hj] at hu
    rw [hu]
  have hl := run_loadCells_list (P := Try.prog) w ⟨g, 0, none⟩ (ns.map (Value.int .u8)) hc
  simp only [List.length_map, hns] at hl
  refine ⟨_, ?_, (run_convert_bytes_string w 47 9 5 _ n c Try.underlying47 Try.underlying5 Try.underlying9).trans (run_bytesToString w ⟨g, 0, none⟩ n c ns hl)⟩
  rw [← hns]
  clear hl hc hns h
  have : ∀ (l : List Int) (r : ByteArray), (l.foldl (fun r n => r.push (UInt8.ofNat n.toNat)) r).size = r.size + l.length := by
    intro l
    induction l with
    | nil => intro r; simp
    | cons x l ih => intro r; rw [List.foldl_cons, ih]; simp; omega
  rw [this]
  show 0 + ns.length = _
  omega

theorem cz0 (n : Nat) (w : World) : (convert 47 9 (.slice (some ⟨w.heap.size, 0, none⟩) n n)).run Try.prog (w.alloc (.cells (Array.replicate n (.int .u8 0)) 5)) = .ok (.string ⟨Array.replicate n 0⟩) (w.alloc (.cells (Array.replicate n (.int .u8 0)) 5)) := by
  have h := conv_any (List.replicate n 0) w.heap.size n (w.alloc (.cells (Array.replicate n (.int .u8 0)) 5)) (fun j hj => by
    rw [cells_at (heap_at_new _ _ _ rfl)]
    simp at hj
    simp [hj])
  simpa using h
theorem cap_ge (w : World) (n : Nat) : n ≤ grownCap w n 0 5 := grownCap_ge w n 0 _
theorem gb_drew1 {w w' : World} {r : Option Nat} (h : w.grownBy w' r) : w.grownBy w'.drew r := ⟨h.os, h.tape, h.output, h.size, h.block⟩
theorem BAt.of_string (w : World) (s : ByteArray) (cap : Nat) : BAt (w.alloc (.cells (bytesRow s cap) 5 ((bytesRow s cap).size, (bytesRow s cap).size + 1))) w.heap.size s.size := fun j hj => by
  refine ⟨⟨_, (World.cell?_alloc_mark w _ _ _ j).trans (bytesRow_at s cap j hj)⟩, ?_⟩
  rw [World.frozen?_alloc_mark]
  have : s.size ≤ (bytesRow s cap).size := by simp [bytesRow]
  have hn : decide ((bytesRow s cap).size ≤ j) = false := by simp; omega
  rw [hn]; rfl
/-- What is known of the values of the region that changes a byte. -/
def SG (b g n cap : Nat) (j : Nat) (v : Value) (w : World) : Prop :=
  match j with
  | 0 => v = .slice (some ⟨g, 0, none⟩) n cap
  | 1 => v = .pointer (some ⟨b, 0, none⟩)
  | 2 => v = .slice (some ⟨g, 0, none⟩) n cap
  | 3 => v = .int .i64 n
  | 4 => ∃ i : Nat, i < n ∧ v = .int .i64 i
  | 5 => ∃ i : Nat, i < n ∧ v = .pointer (some ⟨g, i, none⟩)
  | 6 => ∃ y, v = .int .u8 y
  | 7 => v = .pointer (some ⟨b, 0, none⟩)
  | 8 => ∃ k : Nat, k < 8 ∧ v = .int .i64 k
  | 9 => ∃ y, v = .int .u8 y
  | 10 => ∃ y, v = .int .u8 y
  | 11 => ∃ i : Nat, i < n ∧ v = .pointer (some ⟨g, i, none⟩)
  | _ => True

set_option maxHeartbeats 4000000 in
theorem sector_w (W w : World) (b : Nat) (f : Int) (h : Tp W b w) : Calls Try.prog 10 #[.pointer (some ⟨b, 0, none⟩), .int .i64 f] w (DrewStr W b w) := by
  go_enter Try.func10, Try.ntmps10
  go_upto_region 1 with fail
  go_cut [5] (fun s wx => ∃ s0 : ByteArray, s = .string s0 ∧ s0.size ≤ 8 ∧ Tp W b wx ∧ w.grownBy wx (some b))
  case first =>
    go_wp2_with (first | (go_at_call 9; refine (drawn_w W _ b (by assumption)).mono ?_; rintro e w1 ⟨q1, s1, c1, rfl, hT1, hg1⟩) | (go_at_call 12; refine (rencode_w _ _ _ _ _).mono ?_; rintro e w2 ⟨rfl, hb2⟩))
    go_meet
    case rel => exact ⟨_, rfl, encS_size _ _ _ _, hT1.step hb2, grownBy_trans hg1 (only_of hb2)⟩
  case rest =>
    obtain ⟨s0, rfl, hs8, hT, hG⟩ := hcut
    have hbw := h.lt
    clear h
    have H8 : s0.size ≤ 9223372036854775807 := by omega
    go_upto_region 2 with fail
    go_cut [18] (fun s wx => ∃ x : Int, s = .int .i64 x ∧ 0 ≤ x ∧ x < 6 ∧ Tp W b wx ∧ w.grownBy wx (some b))
    case first =>
      go_wp2_with (go_at_call 19; refine (next_t _ W _ b (by omega) (by omega) hT).mono ?_; rintro e w1 ⟨x, rfl, x0, x1, hT1, hg1⟩)
      go_meet
      case rel => exact ⟨_, rfl, x0, x1, hT1, grownBy_trans hG hg1⟩
    case rest =>
      clear hT hG
      obtain ⟨x, rfl, x0, x1, hT, hG⟩ := hcut
      by_cases e0 : x = 0
      · subst e0
        go_wp2_with (first
          | (go_at_call 9; refine (drawn_w W _ b (by assumption)).mono ?_; rintro e w1 ⟨q1, s1, c1, rfl, hT1, hg1⟩)
          | (go_at_call 12; refine (rencode_w _ _ _ _ _).mono ?_; rintro e w2 ⟨rfl, hb2⟩)
          | (go_at_call 19; refine (next_t _ W _ b (by omega) (by omega) (hT1.step hb2)).mono ?_; rintro e w3 ⟨k, rfl, k0, k1, hT3, hg3⟩)
          | (go_at_call 21; refine (rtorn_w _ _ _ _ (by unfold maxLen; omega) (Nat.le_trans (encS_size _ _ _ _) (by unfold maxLen; omega))).mono ?_; rintro e w4 ⟨rfl, hb4⟩))
        go_ret
        exact ⟨_, rfl, toS_size _ _ _, hT3.step hb4, grownBy_trans (grownBy_trans (grownBy_trans (grownBy_trans hG hg1) (only_of hb2)) hg3) (only_of hb4)⟩
      · by_cases e1 : x = 1
        · subst e1
          clear e0 x0 x1
          by_cases hs0 : s0.size = 0
          · go_wp2
            go_ret
            exact ⟨_, rfl, by omega, hT, hG⟩
          · have hpos : 0 < s0.size := by omega
            have kb := fun w => run_bytes_of_string (P := Try.prog) w 9 47 5 s0 Try.underlying9 Try.underlying47 Try.underlying5
            go_upto_region 8 with fail
            go_cut [9] (fun s wx => ∃ g cap, s = .slice (some ⟨g, 0, none⟩) s0.size cap ∧ s0.size ≤ cap ∧ g ≠ b ∧ w.heap.size ≤ g ∧ BAt wx g s0.size ∧ Tp W b wx ∧ w.grownBy wx (some b))
            case first =>
              go_wp2
              go_meet
              case rel =>
                have hlt := hT.lt
                refine ⟨_, _, rfl, cap_ge _ _, by omega, hG.size, ?_, (hT.alloc _).drew, gb_drew1 (grownBy_trans hG (World.grownBy_alloc _ _ _))⟩
                exact BAt.of_string _ _ _
            case rest =>
              clear hT hG kb
              obtain ⟨g, cap, rfl, hcap, hne, hge, hB, hT, hG⟩ := hcut
              go_upto_region 9 with fail
              go_cut [] (fun wx => BAt wx g s0.size ∧ Tp W b wx ∧ w.grownBy wx (some b))
              case first =>
                have hb0 := hT.lt
                refine wp_region_rel 12 65 (fun w' => Tp W b w' ∧ BAt w' g s0.size ∧ w.grownBy w' (some b)) (fun x y => x.grownBy y (some b)) (SG b g s0.size cap) (by kernel_rfl) (by kernel_rfl) rfl ⟨hT.drew, hB, gb_drew1 hG⟩ (fun _ _ _ _ _ h => h) ?_
                simp only [List.take_succ_cons, List.take_zero, List.drop_succ_cons, List.drop_zero]
                clear hT hB hG
                refine relWalk_cons (fun x hC hd K hK => ?_) (fun v0 => ?_)
                · go_simp
                  exact hK _ _ hC (World.grownBy.refl _ _) rfl
                simp only [Act.put, List.setIfInBounds_toArray, List.set_cons_zero, List.set_cons_succ]
                refine relWalk_cons (fun x hC hd K hK => ?_) (fun v1 => ?_)
                · go_simp
                  exact hK _ _ hC (World.grownBy.refl _ _) rfl
                simp only [Act.put, List.setIfInBounds_toArray, List.set_cons_zero, List.set_cons_succ]
                refine relWalk_cons (fun x hC hd K hK => ?_) (fun v2 => ?_)
                · go_simp
                  exact hK _ _ hC (World.grownBy.refl _ _) rfl
                simp only [Act.put, List.setIfInBounds_toArray, List.set_cons_zero, List.set_cons_succ]
                refine relWalk_cons (fun x hC hd K hK => ?_) (fun v3 => ?_)
                · obtain rfl : v2 = _ := hd 2 (by kernel_rfl)
                  go_simp
                  exact hK _ _ hC (World.grownBy.refl _ _) rfl
                simp only [Act.put, List.setIfInBounds_toArray, List.set_cons_zero, List.set_cons_succ]
                refine relWalk_cons (fun x hC hd K hK => ?_) (fun v4 => ?_)
                · obtain rfl : v1 = _ := hd 1 (by kernel_rfl)
                  obtain rfl : v3 = _ := hd 3 (by kernel_rfl)
                  go_simp
                  go_at_call 19
                  refine (next_t _ W x _ (by omega) (by omega) hC.1).mono ?_
                  rintro e w1 ⟨y, rfl, y0, y1, hT1, hg⟩
                  exact hK _ _ ⟨hT1, hC.2.1.grown hg hne, grownBy_trans hC.2.2 hg⟩ hg ⟨y.toNat, by omega, by rw [Int.toNat_of_nonneg y0]⟩
                simp only [Act.put, List.setIfInBounds_toArray, List.set_cons_zero, List.set_cons_succ]
                refine relWalk_cons (fun x hC hd K hK => ?_) (fun v5 => ?_)
                · obtain rfl : v0 = _ := hd 0 (by kernel_rfl)
                  obtain ⟨i, hi, rfl⟩ := hd 4 (by kernel_rfl)
                  have hi' : (i : Int) < (s0.size : Int) := by omega
                  go_simp
                  exact hK _ _ hC (World.grownBy.refl _ _) ⟨i, hi, rfl⟩
                simp only [Act.put, List.setIfInBounds_toArray, List.set_cons_zero, List.set_cons_succ]
                refine relWalk_cons (fun x hC hd K hK => ?_) (fun v6 => ?_)
                · obtain ⟨i, hi, rfl⟩ := hd 5 (by kernel_rfl)
                  obtain ⟨y, hy⟩ := (hC.2.1 i hi).1
                  go_simp
                  exact hK _ _ hC (World.grownBy.refl _ _) ⟨_, rfl⟩
                simp only [Act.put, List.setIfInBounds_toArray, List.set_cons_zero, List.set_cons_succ]
                refine relWalk_cons (fun x hC hd K hK => ?_) (fun v7 => ?_)
                · go_simp
                  exact hK _ _ hC (World.grownBy.refl _ _) rfl
                simp only [Act.put, List.setIfInBounds_toArray, List.set_cons_zero, List.set_cons_succ]
                refine relWalk_cons (fun x hC hd K hK => ?_) (fun v8 => ?_)
                · obtain rfl : v7 = _ := hd 7 (by kernel_rfl)
                  go_simp
                  go_at_call 19
                  refine (next_t _ W x _ (by omega) (by omega) hC.1).mono ?_
                  rintro e w1 ⟨y, rfl, y0, y1, hT1, hg⟩
                  exact hK _ _ ⟨hT1, hC.2.1.grown hg hne, grownBy_trans hC.2.2 hg⟩ hg ⟨y.toNat, by omega, by rw [Int.toNat_of_nonneg y0]⟩
                simp only [Act.put, List.setIfInBounds_toArray, List.set_cons_zero, List.set_cons_succ]
                refine relWalk_cons (fun x hC hd K hK => ?_) (fun v9 => ?_)
                · obtain ⟨k, hk, rfl⟩ := hd 8 (by kernel_rfl)
                  go_simp
                  exact hK _ _ hC (World.grownBy.refl _ _) ⟨_, rfl⟩
                simp only [Act.put, List.setIfInBounds_toArray, List.set_cons_zero, List.set_cons_succ]
                refine relWalk_cons (fun x hC hd K hK => ?_) (fun v10 => ?_)
                · obtain ⟨y, rfl⟩ := hd 6 (by kernel_rfl)
                  obtain ⟨z, rfl⟩ := hd 9 (by kernel_rfl)
                  go_simp
                  exact hK _ _ hC (World.grownBy.refl _ _) ⟨_, rfl⟩
                simp only [Act.put, List.setIfInBounds_toArray, List.set_cons_zero, List.set_cons_succ]
                refine relWalk_cons (fun x hC hd K hK => ?_) (fun v11 => ?_)
                · obtain rfl : v0 = _ := hd 0 (by kernel_rfl)
                  obtain ⟨i, hi, rfl⟩ := hd 4 (by kernel_rfl)
                  have hi' : (i : Int) < (s0.size : Int) := by omega
                  go_simp
                  exact hK _ _ hC (World.grownBy.refl _ _) ⟨i, hi, rfl⟩
                simp only [Act.put, List.setIfInBounds_toArray, List.set_cons_zero, List.set_cons_succ]
                refine relWalk_nil ?_
                intro x hC hG
                obtain ⟨z, e10⟩ := hG 10 (by omega)
                obtain ⟨i, hi, e11⟩ := hG 11 (by omega)
                obtain rfl : v10 = _ := e10
                obtain rfl : v11 = _ := e11
                obtain ⟨⟨y, hy⟩, hf⟩ := hC.2.1 i hi
                go_wp2
                go_meet
                case rel => exact ⟨hC.2.1.set z, hC.1.set _ _ (by simp; omega), gb_setnew hC.2.2 _ _ hge⟩
              case rest =>
                clear hB hT hG
                obtain ⟨hB, hT, hG⟩ := hcut
                obtain ⟨t, ht, hk⟩ := hB.conv cap
                go_wp2
                go_ret
                exact ⟨_, rfl, by omega, hT, hG⟩
        · by_cases e2 : x = 2
          · subst e2
            clear e0 e1 x0 x1
            have mk7 : ∀ w, (Instr.makeSlice 47 (.int .i64 7) (.int .i64 7)).run Try.prog w = .ok (.slice (some ⟨w.heap.size, 0, none⟩) 7 7) (w.alloc (.cells #[.int .u8 0, .int .u8 0, .int .u8 0, .int .u8 0, .int .u8 0, .int .u8 0, .int .u8 0] 5)) := fun _ => by kernel_rfl
            have cz7 : ∀ w : World, (convert 47 9 (.slice (some ⟨w.heap.size, 0, none⟩) 7 7)).run Try.prog (w.alloc (.cells #[.int .u8 0, .int .u8 0, .int .u8 0, .int .u8 0, .int .u8 0, .int .u8 0, .int .u8 0] 5)) = .ok (.string ⟨#[0, 0, 0, 0, 0, 0, 0]⟩) (w.alloc (.cells #[.int .u8 0, .int .u8 0, .int .u8 0, .int .u8 0, .int .u8 0, .int .u8 0, .int .u8 0] 5)) := fun w => cz0 7 w
            have mk8 : ∀ w, (Instr.makeSlice 47 (.int .i64 8) (.int .i64 8)).run Try.prog w = .ok (.slice (some ⟨w.heap.size, 0, none⟩) 8 8) (w.alloc (.cells #[.int .u8 0, .int .u8 0, .int .u8 0, .int .u8 0, .int .u8 0, .int .u8 0, .int .u8 0, .int .u8 0] 5)) := fun _ => by kernel_rfl
            have cz8 : ∀ w : World, (convert 47 9 (.slice (some ⟨w.heap.size, 0, none⟩) 8 8)).run Try.prog (w.alloc (.cells #[.int .u8 0, .int .u8 0, .int .u8 0, .int .u8 0, .int .u8 0, .int .u8 0, .int .u8 0, .int .u8 0] 5)) = .ok (.string ⟨#[0, 0, 0, 0, 0, 0, 0, 0]⟩) (w.alloc (.cells #[.int .u8 0, .int .u8 0, .int .u8 0, .int .u8 0, .int .u8 0, .int .u8 0, .int .u8 0, .int .u8 0] 5)) := fun w => cz0 8 w
            have mk9 : ∀ w, (Instr.makeSlice 47 (.int .i64 9) (.int .i64 9)).run Try.prog w = .ok (.slice (some ⟨w.heap.size, 0, none⟩) 9 9) (w.alloc (.cells #[.int .u8 0, .int .u8 0, .int .u8 0, .int .u8 0, .int .u8 0, .int .u8 0, .int .u8 0, .int .u8 0, .int .u8 0] 5)) := fun _ => by kernel_rfl
            have cz9 : ∀ w : World, (convert 47 9 (.slice (some ⟨w.heap.size, 0, none⟩) 9 9)).run Try.prog (w.alloc (.cells #[.int .u8 0, .int .u8 0, .int .u8 0, .int .u8 0, .int .u8 0, .int .u8 0, .int .u8 0, .int .u8 0, .int .u8 0] 5)) = .ok (.string ⟨#[0, 0, 0, 0, 0, 0, 0, 0, 0]⟩) (w.alloc (.cells #[.int .u8 0, .int .u8 0, .int .u8 0, .int .u8 0, .int .u8 0, .int .u8 0, .int .u8 0, .int .u8 0, .int .u8 0] 5)) := fun w => cz0 9 w
            go_wp2_with (go_at_call 19; refine (next_t _ W _ b (by omega) (by omega) hT).mono ?_; rintro e w1 ⟨y, rfl, y0, y1, hT1, hg1⟩; rcases (by omega : y = 0 ∨ y = 1 ∨ y = 2) with rfl | rfl | rfl)
            all_goals go_ret
            all_goals exact ⟨_, rfl, by decide, hT1.alloc _, grownBy_trans (grownBy_trans hG hg1) (World.grownBy_alloc _ _ _)⟩
          · have b0 : (x == 0) = false := by simp [e0]
            have b1 : (x == 1) = false := by simp [e1]
            have b2 : (x == 2) = false := by simp [e2]
            clear e0 e1 e2
            go_wp2
            go_ret
            exact ⟨_, rfl, by omega, hT, hG⟩

end Go.Proofs.Ytcgfffkfmnbneaa
