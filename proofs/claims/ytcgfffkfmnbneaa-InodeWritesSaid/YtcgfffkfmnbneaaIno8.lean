/-
  The inodes and sectors that the laws draw, by contracts.
-/
import Derived.Test.YtcgfffkfmnbneaaIno6
import Derived.Test.YtcgfffkfmnbneaaRel
import Derived.Outline
namespace Go.Proofs.Ytcgfffkfmnbneaa
open Go.RowKit
set_option linter.unusedVariables false
set_option linter.unusedSimpArgs false

/-! ### An inode in a block of its own -/
def IAt (w : World) (g : Nat) (q s b : Int) : Prop := w.heap[g]? = some (.cells #[.int .i64 q, .int .i64 s, .int .i64 b] 28 (0, 0))
section
variable {w w' : World} {g : Nat} {q s b : Int}
theorem IAt.lt (h : IAt w g q s b) : g < w.heap.size := (Array.getElem?_eq_some_iff.1 h).1
theorem IAt.new (w : World) (n : Nat) (q s b : Int) (h : w.heap.size = n) : IAt (w.alloc (.cells #[.int .i64 q, .int .i64 s, .int .i64 b] 28)) n q s b := heap_at_new _ _ _ h
theorem IAt.alloc (h : IAt w g q s b) (o : Obj) : IAt (w.alloc o) g q s b := (heap_at_old _ _ _ h.lt).trans h
theorem IAt.drew (h : IAt w g q s b) : IAt w.drew g q s b := h
theorem IAt.drewN (h : IAt w g q s b) (n : Nat) : IAt (w.drewN n) g q s b := h
theorem IAt.step (hb : Below w.heap.size w w') (h : IAt w g q s b) : IAt w' g q s b := (hb.block _ h.lt).trans h
theorem IAt.grown {t : Nat} (hg : w.grownBy w' (some t)) (hn : g ≠ t) (h : IAt w g q s b) : IAt w' g q s b := (hg.block _ h.lt (by simpa using hn)).trans h
theorem IAt.cell (h : IAt w g q s b) : w.cell? ⟨g, 0, none⟩ = some (.int .i64 q) ∧ w.cell? ⟨g, 1, none⟩ = some (.int .i64 s) ∧ w.cell? ⟨g, 2, none⟩ = some (.int .i64 b) :=
  ⟨cells_at h 0, cells_at h 1, cells_at h 2⟩
theorem IAt.free (h : IAt w g q s b) : w.frozen? ⟨g, 0, none⟩ = false ∧ w.frozen? ⟨g, 1, none⟩ = false ∧ w.frozen? ⟨g, 2, none⟩ = false :=
  ⟨free_at h 0, free_at h 1, free_at h 2⟩
theorem IAt.set0 (h : IAt w g q s b) (v : Int) : IAt (w.setCell ⟨g, 0, none⟩ (.int .i64 v)) g v s b := heap_setCell_same w g 0 _ _ _ h
theorem IAt.set1 (h : IAt w g q s b) (v : Int) : IAt (w.setCell ⟨g, 1, none⟩ (.int .i64 v)) g q v b := heap_setCell_same w g 1 _ _ _ h
theorem IAt.set2 (h : IAt w g q s b) (v : Int) : IAt (w.setCell ⟨g, 2, none⟩ (.int .i64 v)) g q s v := heap_setCell_same w g 2 _ _ _ h
end

theorem gb_setnew {w x : World} {r : Option Nat} (h : w.grownBy x r) (p : Addr) (v : Value) (hp : w.heap.size ≤ p.block) : w.grownBy (x.setCell p v) r :=
  ⟨h.os, h.tape, h.output, by simpa [World.setCell] using h.size, fun i hi hne => (Below.heap_setCell x p v i (by omega)).trans (h.block i hi hne)⟩
theorem set_other {w : World} {p : Addr} {v : Value} {k : Nat} {o : Obj} (hk : k ≠ p.block) (h : w.heap[k]? = some o) : (w.setCell p v).heap[k]? = some o := (Below.heap_setCell w p v k hk).trans h

/-- An inode is drawn. -/
def DrewI (W : World) (b : Nat) (w : World) (e : Ending) (w' : World) : Prop := ∃ q s c, e = .returned (.agg #[.int .i64 q, .int .i64 s, .int .i64 c]) ∧ Tp W b w' ∧ w.grownBy w' (some b)
def seqL : List Int := [0, 1, 255, 256, 65534, 65535, 7, 8]

/-- Next, of which also is told that no block is made. -/
def DrewS (n : Int) (W : World) (b : Nat) (w : World) (e : Ending) (w' : World) : Prop :=
  ∃ x, e = .returned (.int .i64 x) ∧ 0 ≤ x ∧ x < n ∧ Tp W b w' ∧ w.grownBy w' (some b) ∧ w'.heap.size = w.heap.size
theorem next_size (n : Int) (w : World) (b : Nat) (h1n : 1 ≤ n) (h2n : n ≤ 9223372036854775807) (h : TapeAt w b) :
    Calls Try.prog 19 #[.pointer (some ⟨b, 0, none⟩), .int .i64 n] w fun e w' => Drew n b w e w' ∧ w'.heap.size = w.heap.size := by
  obtain ⟨a, len, cap, k, h1, h2, h3, h4⟩ := h
  have c0 : w.cell? ⟨b, 0, none⟩ = some (.slice a len cap) := by rw [cells_at h1]; rfl
  have c1 : w.cell? ⟨b, 1, none⟩ = some (.int .i64 (k : Int)) := by rw [cells_at h1]; rfl
  by_cases hk : k < len
  · obtain ⟨c, o, x, rfl, hc, hx⟩ := h4 k hk
    refine (next_more n w b len cap c o k x h1n h2n c0 c1 (free_at h1 1) h3 hk hx (by omega)).mono ?_
    rintro e w' ⟨rfl, m, rfl⟩
    have hr := cutI_range x n h1n
    have hg : w.grownBy ((w.setCell ⟨b, 1, none⟩ (.int .i64 (k + 1))).drewN m) (some b) := grownBy_trans (grownBy_setCell w ⟨b, 1, none⟩ _) (grownBy_drewN _ _ _)
    refine ⟨⟨_, rfl, hr.1, hr.2, hg, some ⟨c, o, none⟩, len, cap, k + 1, ?_, hk, h3, ?_⟩, by simp [World.setCell]⟩
    · show (w.setCell ⟨b, 1, none⟩ (.int .i64 (k + 1))).heap[b]? = _
      simp [World.setCell, Array.getElem?_modify, h1]
    · intro i hi
      obtain ⟨c', o', x', ha, hc', hx'⟩ := h4 i hi
      exact ⟨c', o', x', ha, hc', hg.cell hx' (by simp; omega)⟩
  · obtain rfl : k = len := by omega
    refine (next_end n w b k cap a c0 c1 h3).mono ?_
    rintro e w' ⟨rfl, m, rfl⟩
    exact ⟨⟨0, rfl, by omega, by omega, grownBy_drewN _ _ _, a, k, cap, k, h1, Nat.le_refl _, h3, h4⟩, rfl⟩
theorem next_s (n : Int) (W w : World) (b : Nat) (h1n : 1 ≤ n) (h2n : n ≤ 9223372036854775807) (h : Tp W b w) :
    Calls Try.prog 19 #[.pointer (some ⟨b, 0, none⟩), .int .i64 n] w (DrewS n W b w) := by
  refine (next_size n w b h1n h2n h.1).mono ?_
  rintro e w' ⟨⟨x, rfl, h0, h1, hg, ht⟩, hz⟩
  exact ⟨x, rfl, h0, h1, ⟨ht, h.2.1.grown hg h.2.1.size (by intro k hk; have h2 := h.2.2; simp at hk; omega), h.2.2⟩, hg, hz⟩
theorem keptS {c : Nat} {W w1 : World} (hg : W.grownBy w1 (some c)) (hz : w1.heap.size = W.heap.size) :
    (∀ b o, b < W.heap.size → ¬ b = c → w1.cell? ⟨b, o, none⟩ = W.cell? ⟨b, o, none⟩) ∧ (∀ b o, b < W.heap.size → ¬ b = c → w1.frozen? ⟨b, o, none⟩ = W.frozen? ⟨b, o, none⟩) ∧ w1.heap.size = W.heap.size :=
  ⟨(keptG hg).1, (keptG hg).2.1, hz⟩
abbrev SEQ : Obj := .cells #[.int .i64 0, .int .i64 1, .int .i64 255, .int .i64 256, .int .i64 65534, .int .i64 65535, .int .i64 7, .int .i64 8] 3 (0, 0)
abbrev IN0 : Obj := .cells #[.int .i64 0, .int .i64 0, .int .i64 0] 28 (0, 0)
theorem seq_at {w : World} {g i : Nat} (hi : i < 8) (h : w.heap[g]? = some SEQ) : w.cell? ⟨g, i, none⟩ = some (.int .i64 (seqL.getD i 0)) := by
  rw [cells_at h]
  rcases (by omega : i = 0 ∨ i = 1 ∨ i = 2 ∨ i = 3 ∨ i = 4 ∨ i = 5 ∨ i = 6 ∨ i = 7) with rfl | rfl | rfl | rfl | rfl | rfl | rfl | rfl <;> rfl
theorem gb_block {w w' : World} {b g : Nat} {o : Obj} (hg : w.grownBy w' (some b)) (hn : g ≠ b) (h : w.heap[g]? = some o) : w'.heap[g]? = some o :=
  (hg.block _ (Array.getElem?_eq_some_iff.1 h).1 (by simpa using hn)).trans h

/-- What is known of the values of the region. -/
def DG (B b : Nat) (j : Nat) (v : Value) (w : World) : Prop :=
  match j with
  | 0 => ∃ g, v = .slice (some ⟨g, 0, none⟩) 8 8 ∧ g ≠ b ∧ w.heap[g]? = some SEQ
  | 1 => v = .pointer (some ⟨b, 0, none⟩)
  | 2 => ∃ i : Nat, i < 8 ∧ v = .int .i64 i
  | 3 => ∃ g i : Nat, i < 8 ∧ v = .pointer (some ⟨g, i, none⟩) ∧ g ≠ b ∧ w.heap[g]? = some SEQ
  | 4 => ∃ y, v = .int .i64 y
  | 5 => v = .pointer (some ⟨b, 0, none⟩)
  | 6 => ∃ y, v = .int .i64 y
  | 7 => v = .pointer (some ⟨b, 0, none⟩)
  | 8 => ∃ y, v = .int .i64 y
  | 9 => ∃ q s c, v = .agg #[.int .i64 q, .int .i64 s, .int .i64 c]
  | 10 => ∃ g, v = .pointer (some ⟨g, 0, none⟩) ∧ g ≠ b ∧ B < g ∧ w.heap[g]? = some IN0
  | _ => True
theorem DG.keep {B b : Nat} {w w' : World} (hr : w.grownBy w' (some b)) : ∀ j v, DG B b j v w → DG B b j v w'
  | 0, v, ⟨g, h1, h2, h3⟩ => ⟨g, h1, h2, gb_block hr h2 h3⟩
  | 1, v, h => h
  | 2, v, h => h
  | 3, v, ⟨g, i, h0, h1, h2, h3⟩ => ⟨g, i, h0, h1, h2, gb_block hr h2 h3⟩
  | 4, v, h => h
  | 5, v, h => h
  | 6, v, h => h
  | 7, v, h => h
  | 8, v, h => h
  | 9, v, h => h
  | 10, v, ⟨g, h1, h2, h0, h3⟩ => ⟨g, h1, h2, h0, gb_block hr h2 h3⟩
  | _ + 11, v, h => h

set_option maxHeartbeats 4000000 in
theorem drawn_w (W w : World) (b : Nat) (h : Tp W b w) : Calls Try.prog 9 #[.pointer (some ⟨b, 0, none⟩)] w (DrewI W b w) := by
  have hb := h.lt
  go_enter Try.func9, Try.ntmps9
  go_upto_region 1 with fail
  go_cut [3] (fun s wx => ∃ g q s' c, s = .pointer (some ⟨g, 0, none⟩) ∧ w.heap.size < g ∧ wx.heap[g]? = some (.cells #[.int .i64 q, .int .i64 s', .int .i64 c] 28 (0, 0)) ∧ wx.heap[w.heap.size]? = some IN0 ∧ Tp W b wx ∧ w.grownBy wx (some b))
  case first =>
    go_wp2_with fail
    have hw0 : (w.alloc (.cells #[.int .i64 0, .int .i64 0, .int .i64 0] 28)).heap[w.heap.size]? = some IN0 := heap_alloc_new _ _
    have hT0 : Tp W b (w.alloc (.cells #[.int .i64 0, .int .i64 0, .int .i64 0] 28)) := h.alloc _
    have hg0 : w.grownBy (w.alloc (.cells #[.int .i64 0, .int .i64 0, .int .i64 0] 28)) (some b) := World.grownBy_alloc w _ _
    generalize w.alloc _ = w0 at hw0 hT0 hg0 ⊢
    refine wp_region_rel 11 32 (fun w' => Tp W b w' ∧ w0.grownBy w' (some b)) (fun x y => x.grownBy y (some b)) (DG w.heap.size b) (by kernel_rfl) (by kernel_rfl) rfl ⟨hT0.drew, grownBy_drewN w0 1 _⟩ (fun x y hr => DG.keep hr) ?_
    simp only [List.take_succ_cons, List.take_zero, List.drop_succ_cons, List.drop_zero]
    refine relWalk_cons (fun x hC hd K hK => ?_) (fun v0 => ?_)
    · go_simp
      exact hK _ _ ⟨hC.1.alloc _, grownBy_trans hC.2 (World.grownBy_alloc _ _ _)⟩ (World.grownBy_alloc _ _ _) ⟨_, rfl, by have := hC.1.lt; omega, heap_alloc_new _ _⟩
    simp only [Act.put, List.setIfInBounds_toArray, List.set_cons_zero, List.set_cons_succ]
    refine relWalk_cons (fun x hC hd K hK => ?_) (fun v1 => ?_)
    · go_simp
      exact hK _ _ hC (World.grownBy.refl _ _) rfl
    simp only [Act.put, List.setIfInBounds_toArray, List.set_cons_zero, List.set_cons_succ]
    refine relWalk_cons (fun x hC hd K hK => ?_) (fun v2 => ?_)
    · obtain rfl : v1 = _ := hd 1 (by kernel_rfl)
      go_simp
      go_at_call 19
      refine (next_t _ W x b (by omega) (by omega) hC.1).mono ?_
      rintro e w1 ⟨y, rfl, y0, y1, hT, hg⟩
      exact hK _ _ ⟨hT, grownBy_trans hC.2 hg⟩ hg ⟨y.toNat, by omega, by rw [Int.toNat_of_nonneg y0]⟩
    simp only [Act.put, List.setIfInBounds_toArray, List.set_cons_zero, List.set_cons_succ]
    refine relWalk_cons (fun x hC hd K hK => ?_) (fun v3 => ?_)
    · obtain ⟨g, rfl, hn, hl⟩ := hd 0 (by kernel_rfl)
      obtain ⟨i, hi, rfl⟩ := hd 2 (by kernel_rfl)
      have hi' : (i : Int) < 8 := by omega
      go_simp
      exact hK _ _ hC (World.grownBy.refl _ _) ⟨g, i, hi, rfl, hn, hl⟩
    simp only [Act.put, List.setIfInBounds_toArray, List.set_cons_zero, List.set_cons_succ]
    refine relWalk_cons (fun x hC hd K hK => ?_) (fun v4 => ?_)
    · obtain ⟨g, i, hi, rfl, hn, hl⟩ := hd 3 (by kernel_rfl)
      have hc := seq_at hi hl
      go_simp
      exact hK _ _ hC (World.grownBy.refl _ _) ⟨_, rfl⟩
    simp only [Act.put, List.setIfInBounds_toArray, List.set_cons_zero, List.set_cons_succ]
    refine relWalk_cons (fun x hC hd K hK => ?_) (fun v5 => ?_)
    · go_simp
      exact hK _ _ hC (World.grownBy.refl _ _) rfl
    simp only [Act.put, List.setIfInBounds_toArray, List.set_cons_zero, List.set_cons_succ]
    refine relWalk_cons (fun x hC hd K hK => ?_) (fun v6 => ?_)
    · obtain rfl : v5 = _ := hd 5 (by kernel_rfl)
      go_simp
      go_at_call 19
      refine (next_t _ W x b (by omega) (by omega) hC.1).mono ?_
      rintro e w1 ⟨y, rfl, y0, y1, hT, hg⟩
      exact hK _ _ ⟨hT, grownBy_trans hC.2 hg⟩ hg ⟨y, rfl⟩
    simp only [Act.put, List.setIfInBounds_toArray, List.set_cons_zero, List.set_cons_succ]
    refine relWalk_cons (fun x hC hd K hK => ?_) (fun v7 => ?_)
    · go_simp
      exact hK _ _ hC (World.grownBy.refl _ _) rfl
    simp only [Act.put, List.setIfInBounds_toArray, List.set_cons_zero, List.set_cons_succ]
    refine relWalk_cons (fun x hC hd K hK => ?_) (fun v8 => ?_)
    · obtain rfl : v7 = _ := hd 7 (by kernel_rfl)
      go_simp
      go_at_call 19
      refine (next_t _ W x b (by omega) (by omega) hC.1).mono ?_
      rintro e w1 ⟨y, rfl, y0, y1, hT, hg⟩
      exact hK _ _ ⟨hT, grownBy_trans hC.2 hg⟩ hg ⟨y, rfl⟩
    simp only [Act.put, List.setIfInBounds_toArray, List.set_cons_zero, List.set_cons_succ]
    refine relWalk_cons (fun x hC hd K hK => ?_) (fun v9 => ?_)
    · obtain ⟨q, rfl⟩ := hd 4 (by kernel_rfl)
      obtain ⟨s, rfl⟩ := hd 6 (by kernel_rfl)
      obtain ⟨c, rfl⟩ := hd 8 (by kernel_rfl)
      go_simp
      exact hK _ _ hC (World.grownBy.refl _ _) ⟨q, s, c, rfl⟩
    simp only [Act.put, List.setIfInBounds_toArray, List.set_cons_zero, List.set_cons_succ]
    refine relWalk_cons (fun x hC hd K hK => ?_) (fun v10 => ?_)
    · go_simp
      exact hK _ _ ⟨hC.1.alloc _, grownBy_trans hC.2 (World.grownBy_alloc _ _ _)⟩ (World.grownBy_alloc _ _ _) ⟨_, rfl, by have := hC.1.lt; omega, by have := hC.2.size; have := (Array.getElem?_eq_some_iff.1 hw0).1; omega, heap_alloc_new _ _⟩
    simp only [Act.put, List.setIfInBounds_toArray, List.set_cons_zero, List.set_cons_succ]
    refine relWalk_nil ?_
    intro x hC hG
    obtain ⟨q, s, c, e9⟩ := hG 9 (by omega)
    obtain ⟨g, e10, hn, hge, hi⟩ := hG 10 (by omega)
    obtain rfl : v9 = _ := e9
    obtain rfl : v10 = _ := e10
    obtain ⟨c0, c1, c2⟩ : x.cell? ⟨g, 0, none⟩ = some (.int .i64 0) ∧ x.cell? ⟨g, 1, none⟩ = some (.int .i64 0) ∧ x.cell? ⟨g, 2, none⟩ = some (.int .i64 0) := ⟨cells_at hi 0, cells_at hi 1, cells_at hi 2⟩
    have f0 := free_at hi 0
    have f1 := free_at hi 1
    have f2 := free_at hi 2
    go_wp2
    go_meet
    case rel =>
      have hR := gb_block hC.2 (by omega) hw0
      have hG := grownBy_trans hg0 hC.2
      refine ⟨g, q, s, c, rfl, hge, ((IAt.set0 hi q).set1 s).set2 c, set_other (by simp; omega) (set_other (by simp; omega) (set_other (by simp; omega) hR)), ((hC.1.set _ _ (by simp; omega)).set _ _ (by simp; omega)).set _ _ (by simp; omega), gb_setnew (gb_setnew (gb_setnew hG _ _ (by simp; omega)) _ _ (by simp; omega)) _ _ (by simp; omega)⟩
  case rest =>
    obtain ⟨g, q, s', c, rfl, hge, I0, R0, hT, hG⟩ := hcut
    have hne : g ≠ b := by omega
    have hnR : w.heap.size ≠ b := by omega
    have HI0 := Lib.hid I0
    have HR0 := Lib.hid R0
    clear I0 R0
    go_wp2_with (first
      | (go_at_call 19; refine (next_t _ W _ b (by omega) (by omega) hT).mono ?_; rintro e w1 ⟨x, rfl, h0, h1, hT1, hg1⟩; have HI1 := Lib.hid (IAt.grown hg1 hne HI0.out); have HR1 := Lib.hid (gb_block hg1 hnR HR0.out); obtain ⟨m0, m1, m2⟩ := HI1.out.cell; obtain ⟨n0, n1, n2⟩ := HI1.out.free; have r0 := cells_at HR1.out 0; have r1 := cells_at HR1.out 1; have r2 := cells_at HR1.out 2; have k0 := free_at HR1.out 0; have k1 := free_at HR1.out 1; have k2 := free_at HR1.out 2; have hG1 := grownBy_trans hG hg1; simp only [List.getElem?_toArray, List.getElem?_cons_zero, List.getElem?_cons_succ] at r0 r1 r2)
      | (go_at_call 23; refine (odd_t W _ b hT1).mono ?_; rintro e w2 ⟨y, rfl, y0, y1, hT2, hg2⟩; clear m0 m1 m2 n0 n1 n2 r0 r1 r2 k0 k1 k2; have HI2 := Lib.hid (IAt.grown hg2 hne HI1.out); have HR2 := Lib.hid (gb_block hg2 hnR HR1.out); obtain ⟨m0, m1, m2⟩ := HI2.out.cell; obtain ⟨n0, n1, n2⟩ := HI2.out.free; have r0 := cells_at HR2.out 0; have r1 := cells_at HR2.out 1; have r2 := cells_at HR2.out 2; have k0 := free_at HR2.out 0; have k1 := free_at HR2.out 1; have k2 := free_at HR2.out 2; have hG2 := grownBy_trans hG1 hg2; simp only [List.getElem?_toArray, List.getElem?_cons_zero, List.getElem?_cons_succ] at r0 r1 r2))
    · refine bodyPost_ret (v := .agg #[.int .i64 y, .int .i64 s', .int .i64 c]) (by simp [results, Try.results9, go_sem, m0, m1, m2, r0, r1, r2]) rfl ⟨_, _, _, rfl, ?_, ?_⟩
      · repeat (with_reducible first | exact hT2 | refine Tp.set ?_ _ _ (by first | (simp; done) | (simp; omega)))
      · repeat (with_reducible first | exact hG2 | refine gb_setnew ?_ _ _ (by first | (simp; done) | (simp; omega)))
    · refine bodyPost_ret (v := .agg #[.int .i64 q, .int .i64 y, .int .i64 c]) (by simp [results, Try.results9, go_sem, m0, m1, m2, r0, r1, r2]) rfl ⟨_, _, _, rfl, ?_, ?_⟩
      · repeat (with_reducible first | exact hT2 | refine Tp.set ?_ _ _ (by first | (simp; done) | (simp; omega)))
      · repeat (with_reducible first | exact hG2 | refine gb_setnew ?_ _ _ (by first | (simp; done) | (simp; omega)))
    · refine bodyPost_ret (v := .agg #[.int .i64 q, .int .i64 s', .int .i64 y]) (by simp [results, Try.results9, go_sem, m0, m1, m2, r0, r1, r2]) rfl ⟨_, _, _, rfl, ?_, ?_⟩
      · repeat (with_reducible first | exact hT2 | refine Tp.set ?_ _ _ (by first | (simp; done) | (simp; omega)))
      · repeat (with_reducible first | exact hG2 | refine gb_setnew ?_ _ _ (by first | (simp; done) | (simp; omega)))
    · refine bodyPost_ret (v := .agg #[.int .i64 q, .int .i64 s', .int .i64 c]) (by simp [results, Try.results9, go_sem, m0, m1, m2, r0, r1, r2]) rfl ⟨_, _, _, rfl, ?_, ?_⟩
      · repeat (with_reducible first | exact hT1 | refine Tp.set ?_ _ _ (by first | (simp; done) | (simp; omega)))
      · repeat (with_reducible first | exact hG1 | refine gb_setnew ?_ _ _ (by first | (simp; done) | (simp; omega)))

end Go.Proofs.Ytcgfffkfmnbneaa
