/-
  Next and Count of package radix, by contracts.
-/
import Derived.Test.YtpoagdffpajdjaaRadQ
namespace Go.Proofs.Ytpoagdffpajdjaa
open Go.RowKit
set_option linter.unusedVariables false
set_option linter.unusedSimpArgs false

theorem next_bad_mark {l : List En} {fr m : Int} (h0 : m ≠ 0) (hm : oneB m = false) : nextP l fr m = (0, false) := nextP_none fun e he => by
  have h1 : (m == 0) = false := beq_eq_false_iff_ne.2 h0
  unfold tstB mkB
  rw [h1, hm]
  simp
def RetNx (l : List En) (fr m : Int) (w : World) (e : Ending) (w' : World) : Prop := e = .returned (.tuple #[.int .i64 (nextP l fr m).1, .bool (nextP l fr m).2]) ∧ Below w.heap.size w w'
def SP.sk (x : Int × Bool) : SP := ⟨fun v _ => ∃ ii : Int, v = .tuple #[.int .i64 ii, .bool x.2] ∧ (x.2 = true → ii = x.1), fun _ _ _ _ h => h⟩
def SP.ii (x : Int × Bool) : SP := ⟨fun v _ => ∃ ii : Int, v = .int .i64 ii ∧ (x.2 = true → ii = x.1), fun _ _ _ _ h => h⟩
theorem next_zero {l : List En} {fr m : Int} (h : (nextP l fr m).2 = false) : nextP l fr m = (0, false) := by
  unfold nextP at h ⊢
  cases hf : l.find? (tstB fr m) with
  | none => rfl
  | some e => rw [hf] at h; cases h
set_option maxRecDepth 100000 in
set_option maxHeartbeats 4000000 in
theorem rxNext_w (h : Nat) (c : Cn) (A : Option Addr) (cap : Nat) (S : Nat → Prop) (fr m : Int) (w : World) (hl : leafy c) (ht : TreeOk h c) (hcap : (cano h c).kids.length ≤ cap) (hk : NK w S A (cano h c).kids) :
    Calls Try.prog 13 #[trV h A (cano h c).kids.length cap (cano h c).val (cano h c).marks, .int .i64 fr, .int .i64 m] w (RetNx (ents 0 (4 ^ h) c) fr m w) := by
  have h4 := ht.1
  have hp : 4 ^ h ≤ 256 := show 4 ^ h ≤ 4 ^ 4 from Nat.pow_le_pow_right (by omega) h4
  have hva := fun w' (hb : Below w.heap.size w w') => valid_w h (cano h c) A cap S w' (cano_ml _ _) hcap (hk.step hb)
  rw [valid_of hl ht] at hva
  have hse := fun m (hm : m = 0 ∨ oneB m = true) w' (hb : Below w.heap.size w w') => seek_w h c A cap S 0 fr m w' h4 hl (by omega) hm hcap (hk.step hb)
  obtain ⟨n, hn⟩ : ∃ n, (cano h c).kids.length = n := ⟨_, rfl⟩
  obtain ⟨v, hv⟩ : ∃ v, (cano h c).val = v := ⟨_, rfl⟩
  obtain ⟨mm, hm⟩ : ∃ m, (cano h c).marks = m := ⟨_, rfl⟩
  have hsi := fun w => size_w h A n cap v mm w h4
  rw [hn, hv, hm] at hva hse ⊢
  have HX := Lib.hid (heap_alloc_at w (.cells #[.int .i64 (h : Int), .slice A n cap, .int .i64 v, .int .i64 mm] 28))
  have HW := Lib.hid (bl_alloc (Below.refl w.heap.size w) (.cells #[.int .i64 (h : Int), .slice A n cap, .int .i64 v, .int .i64 mm] 28))
  generalize ents 0 (4 ^ h) c = es at hse ⊢
  generalize 4 ^ h = p at hse hsi
  have hon := fun w => mark_b m w
  clear hn hv hm hk hl ht hcap hp
  by_cases h0 : m = 0
  · subst h0
    have hse := hse 0 (.inl rfl)
    go_enter Try.func13, Try.ntmps13
    go_upto_region 3 with (first | (go_at_call 15; (with_reducible refine Calls.mono (hva _ (by (repeat (with_reducible first | assumption | exact Below.refl _ _ | refine bl_alloc ?_ _ | apply Below.drew | refine below_drewN ?_ _ | (apply bl_step2; assumption) | (refine Below.setCell ?_ (Nat.le_refl _) _) | (refine Below.setCell ?_ (by first | omega | (simp; done) | (go_simp; done)) _))))) ?_); rintro e w1 ⟨rfl, hb1⟩; have HX1 := Lib.hid (bk_step HX.out hb1); have HW1 := Lib.hid (bl_step HW.out hb1); have x0 := cells_at HX1.out 0; have x1 := cells_at HX1.out 1; have x2 := cells_at HX1.out 2; have x3 := cells_at HX1.out 3; simp only [List.getElem?_toArray, List.getElem?_cons_zero, List.getElem?_cons_succ] at x0 x1 x2 x3) | (go_at_call 40; (with_reducible refine Calls.mono (hon _) ?_); rintro e w2 ⟨rfl, rfl⟩))
    have lX := bk_lt HX1.out
    obtain ⟨NX, hNX⟩ : ∃ x, nextP es fr 0 = x := ⟨_, rfl⟩
    have HNX := Lib.hid hNX
    clear hNX
    refine wp_region_sp 11 35 [SP.eq (.pointer (some ⟨w.heap.size, 1, none⟩)), SP.eq (ndV A n cap v mm), SP.eq (trV h A n cap v mm), SP.eq (.int .i64 p), SP.eq (.int .i64 fr), SP.eq (.int .i64 0), SP.sk NX, SP.sk NX, SP.ii NX, SP.eq (.bool NX.2), SP.ii NX] (by kernel_rfl) (by kernel_rfl) rfl ?_
    simp only [List.take_succ_cons, List.take_zero, List.drop_succ_cons, List.drop_zero]
    refine relWalk_cons (fun x hC hd K hK => ?_) (fun v0 => ?_)
    · go_simp
      exact hK _ _ hC (Below.refl _ _) rfl
    simp only [Act.put, List.setIfInBounds_toArray, List.set_cons_zero, List.set_cons_succ]
    refine relWalk_cons (fun x hC hd K hK => ?_) (fun v1 => ?_)
    · obtain rfl : v0 = _ := hd 0 (by kernel_rfl)
      have y1 := (hC.cell (p := ⟨w.heap.size, _, none⟩) lX).trans x1
      have y2 := (hC.cell (p := ⟨w.heap.size, _, none⟩) lX).trans x2
      have y3 := (hC.cell (p := ⟨w.heap.size, _, none⟩) lX).trans x3
      go_simp
      exact hK _ _ hC (Below.refl _ _) rfl
    simp only [Act.put, List.setIfInBounds_toArray, List.set_cons_zero, List.set_cons_succ]
    refine relWalk_cons (fun x hC hd K hK => ?_) (fun v2 => ?_)
    · have y0 := (hC.cell (p := ⟨w.heap.size, _, none⟩) lX).trans x0
      have y1 := (hC.cell (p := ⟨w.heap.size, _, none⟩) lX).trans x1
      have y2 := (hC.cell (p := ⟨w.heap.size, _, none⟩) lX).trans x2
      have y3 := (hC.cell (p := ⟨w.heap.size, _, none⟩) lX).trans x3
      go_simp
      exact hK _ _ hC (Below.refl _ _) rfl
    simp only [Act.put, List.setIfInBounds_toArray, List.set_cons_zero, List.set_cons_succ]
    refine relWalk_cons (fun x hC hd K hK => ?_) (fun v3 => ?_)
    · obtain rfl : v2 = _ := hd 2 (by kernel_rfl)
      go_simp
      go_at_call 42
      refine (hsi x).mono ?_
      rintro e w1 ⟨rfl, hb1⟩
      exact hK _ _ (bl_step hC hb1) hb1 rfl
    simp only [Act.put, List.setIfInBounds_toArray, List.set_cons_zero, List.set_cons_succ]
    refine relWalk_cons (fun x hC hd K hK => ?_) (fun v4 => ?_)
    · go_simp
      exact hK _ _ hC (Below.refl _ _) rfl
    simp only [Act.put, List.setIfInBounds_toArray, List.set_cons_zero, List.set_cons_succ]
    refine relWalk_cons (fun x hC hd K hK => ?_) (fun v5 => ?_)
    · go_simp
      exact hK _ _ hC (Below.refl _ _) rfl
    simp only [Act.put, List.setIfInBounds_toArray, List.set_cons_zero, List.set_cons_succ]
    refine relWalk_cons (fun x hC hd K hK => ?_) (fun v6 => ?_)
    · obtain rfl : v1 = _ := hd 1 (by kernel_rfl)
      obtain rfl : v3 = _ := hd 3 (by kernel_rfl)
      obtain rfl : v4 = _ := hd 4 (by kernel_rfl)
      obtain rfl : v5 = _ := hd 5 (by kernel_rfl)
      go_simp
      go_at_call 41
      refine (hse x (bl_step HW1.out hC)).mono ?_
      rintro e w1 ⟨ii, rfl, hii, hb2⟩
      rw [HNX.out] at hii ⊢
      exact hK _ _ (bl_step hC hb2) hb2 ⟨ii, rfl, hii⟩
    simp only [Act.put, List.setIfInBounds_toArray, List.set_cons_zero, List.set_cons_succ]
    refine relWalk_cons (fun x hC hd K hK => ?_) (fun v7 => ?_)
    · obtain ⟨ii, rfl, hii⟩ := hd 6 (by kernel_rfl)
      have HII := Lib.hid hii
      clear hii
      go_simp
      exact hK _ _ hC (Below.refl _ _) ⟨ii, rfl, HII.out⟩
    simp only [Act.put, List.setIfInBounds_toArray, List.set_cons_zero, List.set_cons_succ]
    refine relWalk_cons (fun x hC hd K hK => ?_) (fun v8 => ?_)
    · obtain ⟨ii, rfl, hii⟩ := hd 7 (by kernel_rfl)
      have HII := Lib.hid hii
      clear hii
      go_simp
      exact hK _ _ hC (Below.refl _ _) ⟨ii, rfl, HII.out⟩
    simp only [Act.put, List.setIfInBounds_toArray, List.set_cons_zero, List.set_cons_succ]
    refine relWalk_cons (fun x hC hd K hK => ?_) (fun v9 => ?_)
    · obtain ⟨ii, rfl, hii⟩ := hd 7 (by kernel_rfl)
      clear hii
      go_simp
      exact hK _ _ hC (Below.refl _ _) rfl
    simp only [Act.put, List.setIfInBounds_toArray, List.set_cons_zero, List.set_cons_succ]
    refine relWalk_cons (fun x hC hd K hK => ?_) (fun v10 => ?_)
    · obtain ⟨ii, rfl, hii⟩ := hd 8 (by kernel_rfl)
      have HII := Lib.hid hii
      clear hii
      go_simp
      exact hK _ _ hC (Below.refl _ _) ⟨ii, rfl, HII.out⟩
    simp only [Act.put, List.setIfInBounds_toArray, List.set_cons_zero, List.set_cons_succ]
    refine relWalk_nil ?_
    intro x hC hG
    obtain rfl : v9 = _ := hG 9 (by omega)
    obtain ⟨ii, e10, hii⟩ := hG 10 (by omega)
    obtain rfl : v10 = _ := e10
    have HII := Lib.hid hii
    have HW2 := Lib.hid (bl_step HW1.out hC)
    clear hG hC x0 x1 x2 x3 hii
    cases hnx : NX.2 with
    | true =>
      have HI2 := Lib.hid (HII.out hnx)
      have HT2 := Lib.hid hnx
      clear hnx
      go_wp2
      go_ret2
      exact ⟨by rw [HNX.out, ← HI2.out, HT2.out]; rfl, HW2.out⟩
    | false =>
      have HT1 := Lib.hid (next_zero (l := es) (fr := fr) (m := 0) (by rw [HNX.out]; exact hnx))
      clear hnx
      go_wp2
      go_ret2
      exact ⟨by rw [HT1.out]; rfl, HW2.out⟩
  · have q1 : (m == 0) = false := beq_eq_false_iff_ne.2 h0
    have q2 : (m != 0) = true := bne_iff_ne.2 h0
    cases ho : oneB m with
    | true =>
      have hse := hse m (.inr ho)
      rw [ho] at hon
      clear ho h0
      go_enter Try.func13, Try.ntmps13
      go_upto_region 3 with (first | (go_at_call 15; (with_reducible refine Calls.mono (hva _ (by (repeat (with_reducible first | assumption | exact Below.refl _ _ | refine bl_alloc ?_ _ | apply Below.drew | refine below_drewN ?_ _ | (apply bl_step2; assumption) | (refine Below.setCell ?_ (Nat.le_refl _) _) | (refine Below.setCell ?_ (by first | omega | (simp; done) | (go_simp; done)) _))))) ?_); rintro e w1 ⟨rfl, hb1⟩; have HX1 := Lib.hid (bk_step HX.out hb1); have HW1 := Lib.hid (bl_step HW.out hb1); have x0 := cells_at HX1.out 0; have x1 := cells_at HX1.out 1; have x2 := cells_at HX1.out 2; have x3 := cells_at HX1.out 3; simp only [List.getElem?_toArray, List.getElem?_cons_zero, List.getElem?_cons_succ] at x0 x1 x2 x3) | (go_at_call 40; (with_reducible refine Calls.mono (hon _) ?_); rintro e w2 ⟨rfl, rfl⟩))
      have lX := bk_lt HX1.out
      obtain ⟨NX, hNX⟩ : ∃ x, nextP es fr m = x := ⟨_, rfl⟩
      have HNX := Lib.hid hNX
      clear hNX
      refine wp_region_sp 11 35 [SP.eq (.pointer (some ⟨w.heap.size, 1, none⟩)), SP.eq (ndV A n cap v mm), SP.eq (trV h A n cap v mm), SP.eq (.int .i64 p), SP.eq (.int .i64 fr), SP.eq (.int .i64 m), SP.sk NX, SP.sk NX, SP.ii NX, SP.eq (.bool NX.2), SP.ii NX] (by kernel_rfl) (by kernel_rfl) rfl ?_
      simp only [List.take_succ_cons, List.take_zero, List.drop_succ_cons, List.drop_zero]
      refine relWalk_cons (fun x hC hd K hK => ?_) (fun v0 => ?_)
      · go_simp
        exact hK _ _ hC (Below.refl _ _) rfl
      simp only [Act.put, List.setIfInBounds_toArray, List.set_cons_zero, List.set_cons_succ]
      refine relWalk_cons (fun x hC hd K hK => ?_) (fun v1 => ?_)
      · obtain rfl : v0 = _ := hd 0 (by kernel_rfl)
        have y1 := (hC.cell (p := ⟨w.heap.size, _, none⟩) lX).trans x1
        have y2 := (hC.cell (p := ⟨w.heap.size, _, none⟩) lX).trans x2
        have y3 := (hC.cell (p := ⟨w.heap.size, _, none⟩) lX).trans x3
        go_simp
        exact hK _ _ hC (Below.refl _ _) rfl
      simp only [Act.put, List.setIfInBounds_toArray, List.set_cons_zero, List.set_cons_succ]
      refine relWalk_cons (fun x hC hd K hK => ?_) (fun v2 => ?_)
      · have y0 := (hC.cell (p := ⟨w.heap.size, _, none⟩) lX).trans x0
        have y1 := (hC.cell (p := ⟨w.heap.size, _, none⟩) lX).trans x1
        have y2 := (hC.cell (p := ⟨w.heap.size, _, none⟩) lX).trans x2
        have y3 := (hC.cell (p := ⟨w.heap.size, _, none⟩) lX).trans x3
        go_simp
        exact hK _ _ hC (Below.refl _ _) rfl
      simp only [Act.put, List.setIfInBounds_toArray, List.set_cons_zero, List.set_cons_succ]
      refine relWalk_cons (fun x hC hd K hK => ?_) (fun v3 => ?_)
      · obtain rfl : v2 = _ := hd 2 (by kernel_rfl)
        go_simp
        go_at_call 42
        refine (hsi x).mono ?_
        rintro e w1 ⟨rfl, hb1⟩
        exact hK _ _ (bl_step hC hb1) hb1 rfl
      simp only [Act.put, List.setIfInBounds_toArray, List.set_cons_zero, List.set_cons_succ]
      refine relWalk_cons (fun x hC hd K hK => ?_) (fun v4 => ?_)
      · go_simp
        exact hK _ _ hC (Below.refl _ _) rfl
      simp only [Act.put, List.setIfInBounds_toArray, List.set_cons_zero, List.set_cons_succ]
      refine relWalk_cons (fun x hC hd K hK => ?_) (fun v5 => ?_)
      · go_simp
        exact hK _ _ hC (Below.refl _ _) rfl
      simp only [Act.put, List.setIfInBounds_toArray, List.set_cons_zero, List.set_cons_succ]
      refine relWalk_cons (fun x hC hd K hK => ?_) (fun v6 => ?_)
      · obtain rfl : v1 = _ := hd 1 (by kernel_rfl)
        obtain rfl : v3 = _ := hd 3 (by kernel_rfl)
        obtain rfl : v4 = _ := hd 4 (by kernel_rfl)
        obtain rfl : v5 = _ := hd 5 (by kernel_rfl)
        go_simp
        go_at_call 41
        refine (hse x (bl_step HW1.out hC)).mono ?_
        rintro e w1 ⟨ii, rfl, hii, hb2⟩
        rw [HNX.out] at hii ⊢
        exact hK _ _ (bl_step hC hb2) hb2 ⟨ii, rfl, hii⟩
      simp only [Act.put, List.setIfInBounds_toArray, List.set_cons_zero, List.set_cons_succ]
      refine relWalk_cons (fun x hC hd K hK => ?_) (fun v7 => ?_)
      · obtain ⟨ii, rfl, hii⟩ := hd 6 (by kernel_rfl)
        have HII := Lib.hid hii
        clear hii
        go_simp
        exact hK _ _ hC (Below.refl _ _) ⟨ii, rfl, HII.out⟩
      simp only [Act.put, List.setIfInBounds_toArray, List.set_cons_zero, List.set_cons_succ]
      refine relWalk_cons (fun x hC hd K hK => ?_) (fun v8 => ?_)
      · obtain ⟨ii, rfl, hii⟩ := hd 7 (by kernel_rfl)
        have HII := Lib.hid hii
        clear hii
        go_simp
        exact hK _ _ hC (Below.refl _ _) ⟨ii, rfl, HII.out⟩
      simp only [Act.put, List.setIfInBounds_toArray, List.set_cons_zero, List.set_cons_succ]
      refine relWalk_cons (fun x hC hd K hK => ?_) (fun v9 => ?_)
      · obtain ⟨ii, rfl, hii⟩ := hd 7 (by kernel_rfl)
        clear hii
        go_simp
        exact hK _ _ hC (Below.refl _ _) rfl
      simp only [Act.put, List.setIfInBounds_toArray, List.set_cons_zero, List.set_cons_succ]
      refine relWalk_cons (fun x hC hd K hK => ?_) (fun v10 => ?_)
      · obtain ⟨ii, rfl, hii⟩ := hd 8 (by kernel_rfl)
        have HII := Lib.hid hii
        clear hii
        go_simp
        exact hK _ _ hC (Below.refl _ _) ⟨ii, rfl, HII.out⟩
      simp only [Act.put, List.setIfInBounds_toArray, List.set_cons_zero, List.set_cons_succ]
      refine relWalk_nil ?_
      intro x hC hG
      obtain rfl : v9 = _ := hG 9 (by omega)
      obtain ⟨ii, e10, hii⟩ := hG 10 (by omega)
      obtain rfl : v10 = _ := e10
      have HII := Lib.hid hii
      have HW2 := Lib.hid (bl_step HW1.out hC)
      clear hG hC x0 x1 x2 x3 hii
      cases hnx : NX.2 with
      | true =>
        have HI2 := Lib.hid (HII.out hnx)
        have HT2 := Lib.hid hnx
        clear hnx
        go_wp2
        go_ret2
        exact ⟨by rw [HNX.out, ← HI2.out, HT2.out]; rfl, HW2.out⟩
      | false =>
        have HT1 := Lib.hid (next_zero (l := es) (fr := fr) (m := m) (by rw [HNX.out]; exact hnx))
        clear hnx
        go_wp2
        go_ret2
        exact ⟨by rw [HT1.out]; rfl, HW2.out⟩
    | false =>
      have HR := Lib.hid (next_bad_mark (l := es) (fr := fr) h0 ho)
      rw [ho] at hon
      clear ho h0
      go_enter Try.func13, Try.ntmps13
      go_wp2_with (first | (go_at_call 15; (with_reducible refine Calls.mono (hva _ (by (repeat (with_reducible first | assumption | exact Below.refl _ _ | refine bl_alloc ?_ _ | apply Below.drew | refine below_drewN ?_ _ | (apply bl_step2; assumption) | (refine Below.setCell ?_ (Nat.le_refl _) _) | (refine Below.setCell ?_ (by first | omega | (simp; done) | (go_simp; done)) _))))) ?_); rintro e w1 ⟨rfl, hb1⟩; have HX1 := Lib.hid (bk_step HX.out hb1); have HW1 := Lib.hid (bl_step HW.out hb1); have x0 := cells_at HX1.out 0; have x1 := cells_at HX1.out 1; have x2 := cells_at HX1.out 2; have x3 := cells_at HX1.out 3; simp only [List.getElem?_toArray, List.getElem?_cons_zero, List.getElem?_cons_succ] at x0 x1 x2 x3) | (go_at_call 40; (with_reducible refine Calls.mono (hon _) ?_); rintro e w2 ⟨rfl, rfl⟩))
      go_ret2
      exact ⟨by rw [HR.out]; rfl, HW1.out⟩

/-! ### Count: Next from each entry behind the last -/
theorem ents_sorted (base n : Nat) (c : Cn) : (ents base n c).Pairwise (fun a b => a.1 < b.1) := by
  unfold ents
  rw [List.pairwise_filterMap]
  refine List.pairwise_lt_range.imp ?_
  intro a b hab x hx y hy
  split at hx
  · cases hx
  · split at hy
    · cases hy
    · simp at hx hy
      rw [← hx, ← hy]
      show ((base + a : Nat) : Int) < ((base + b : Nat) : Int)
      omega
/-- The number of entries with a mark that are not before an index. -/
def cntFrom (l : List En) (fr m : Int) : Nat := l.countP (tstB fr m)
theorem cntFrom_none {l : List En} {fr m : Int} (h : (nextP l fr m).2 = false) : cntFrom l fr m = 0 := by
  unfold cntFrom
  rw [List.countP_eq_zero]
  unfold nextP at h
  cases hf : l.find? (tstB fr m) with
  | none => rw [List.find?_eq_none] at hf; exact hf
  | some e => rw [hf] at h; cases h
theorem tst_split {fr fr' m : Int} {e : En} (h1 : fr ≤ fr') (h2 : tstB fr' m e = true) : tstB fr m e = true := by
  unfold tstB at h2 ⊢
  simp only [Bool.and_eq_true, decide_eq_true_eq] at h2 ⊢
  exact ⟨by omega, h2.2⟩
theorem cntFrom_next {fr m : Int} : ∀ {l : List En}, l.Pairwise (fun a b => a.1 < b.1) → (nextP l fr m).2 = true → cntFrom l fr m = cntFrom l ((nextP l fr m).1 + 1) m + 1 ∧ fr ≤ (nextP l fr m).1 ∧ ∃ e ∈ l, e.1 = (nextP l fr m).1
  | [], _, h => by cases h
  | e :: l, hs, h => by
    rw [List.pairwise_cons] at hs
    cases ht : tstB fr m e with
    | true =>
      have hn : nextP (e :: l) fr m = (e.1, true) := by unfold nextP; rw [List.find?_cons, ht]
      have hfr : fr ≤ e.1 := by unfold tstB at ht; simp only [Bool.and_eq_true, decide_eq_true_eq] at ht; exact ht.1
      rw [hn]
      refine ⟨?_, hfr, e, by simp, rfl⟩
      unfold cntFrom
      rw [List.countP_cons, List.countP_cons, ht, if_pos rfl]
      have h0 : tstB (e.1 + 1) m e = false := by unfold tstB; rw [decide_eq_false (by omega)]; rfl
      rw [show (if tstB ((e.1, true).1 + 1) m e = true then 1 else 0) = 0 by rw [show ((e.1, true).1 + 1) = e.1 + 1 from rfl, h0]; rfl]
      rw [Nat.add_zero]
      congr 1
      apply List.countP_congr
      intro x hx
      have hlt := hs.1 x hx
      unfold tstB
      simp only [Bool.and_eq_true, decide_eq_true_eq]
      constructor
      · rintro ⟨_, h⟩; exact ⟨by omega, h⟩
      · rintro ⟨_, h⟩; exact ⟨by omega, h⟩
    | false =>
      have hn : nextP (e :: l) fr m = nextP l fr m := by unfold nextP; rw [List.find?_cons, ht]
      rw [hn] at h ⊢
      obtain ⟨h1, h2, x, hx, h3⟩ := cntFrom_next hs.2 h
      refine ⟨?_, h2, x, by simp [hx], h3⟩
      unfold cntFrom at h1 ⊢
      rw [List.countP_cons, List.countP_cons, ht, h1]
      have h0 : tstB ((nextP l fr m).1 + 1) m e = false := by
        cases hc : tstB ((nextP l fr m).1 + 1) m e with
        | false => rfl
        | true => rw [tst_split (by omega) hc] at ht; cases ht
      rw [h0]
      simp
theorem cntFrom_zero {n : Nat} {c : Cn} {m : Int} : cntFrom (ents 0 n c) 0 m = countP (ents 0 n c) m := by
  unfold cntFrom countP
  apply List.countP_congr
  intro x hx
  obtain ⟨j, _, _, rfl⟩ := mem_ents.1 hx
  unfold tstB cntB
  simp
set_option maxRecDepth 100000 in
set_option maxHeartbeats 2000000 in
theorem count_w (h : Nat) (c : Cn) (A : Option Addr) (cap : Nat) (S : Nat → Prop) (m : Int) (w : World) (hl : leafy c) (ht : TreeOk h c) (hcap : (cano h c).kids.length ≤ cap) (hk : NK w S A (cano h c).kids) :
    Calls Try.prog 21 #[trV h A (cano h c).kids.length cap (cano h c).val (cano h c).marks, .int .i64 m] w (RetI (countP (ents 0 (4 ^ h) c) m) w) := by
  have h4 := ht.1
  have hp : 4 ^ h ≤ 256 := show 4 ^ h ≤ 4 ^ 4 from Nat.pow_le_pow_right (by omega) h4
  have hne := fun fr w' (hb : Below w.heap.size w w') => rxNext_w h c A cap S fr m w' hl ht hcap (hk.step hb)
  have HS := Lib.hid (ents_sorted 0 (4 ^ h) c)
  have HC := Lib.hid (cntFrom_zero (n := 4 ^ h) (c := c) (m := m))
  have HLN := Lib.hid (show countP (ents 0 (4 ^ h) c) m ≤ 256 from Nat.le_trans List.countP_le_length (Nat.le_trans (ents_len 0 (4 ^ h) c) hp))
  have HM := Lib.hid (show ∀ e ∈ ents 0 (4 ^ h) c, 0 ≤ e.1 ∧ e.1 < 256 from fun e he => by obtain ⟨j, hj, _, rfl⟩ := mem_ents.1 he; exact ⟨by show (0 : Int) ≤ ((0 + j : Nat) : Int); omega, by show ((0 + j : Nat) : Int) < 256; omega⟩)
  obtain ⟨n, hn⟩ : ∃ n, (cano h c).kids.length = n := ⟨_, rfl⟩
  obtain ⟨v, hv⟩ : ∃ v, (cano h c).val = v := ⟨_, rfl⟩
  obtain ⟨mm, hm⟩ : ∃ m, (cano h c).marks = m := ⟨_, rfl⟩
  rw [hn, hv, hm] at hne ⊢
  have HX := Lib.hid (heap_alloc_at w (.cells #[.int .i64 (h : Int), .slice A n cap, .int .i64 v, .int .i64 mm] 28))
  have HW := Lib.hid (bl_alloc (Below.refl w.heap.size w) (.cells #[.int .i64 (h : Int), .slice A n cap, .int .i64 v, .int .i64 mm] 28))
  generalize ents 0 (4 ^ h) c = es at *
  clear hn hv hm hk hl ht hcap hp
  go_enter Try.func21, Try.ntmps21
  go_wp2_with (go_at_call 13; (with_reducible refine Calls.mono (hne _ _ (by (repeat (with_reducible first | assumption | exact Below.refl _ _ | refine bl_alloc ?_ _ | apply Below.drew | refine below_drewN ?_ _ | (apply bl_step2; assumption) | (refine Below.setCell ?_ (Nat.le_refl _) _) | (refine Below.setCell ?_ (by first | omega | (simp; done) | (go_simp; done)) _))))) ?_); rintro e w1 ⟨rfl, hb1⟩; have HX1 := Lib.hid (bk_step HX.out hb1); have HW1 := Lib.hid (bl_step HW.out hb1))
  go_loopw [5, 6, 7] (fun s5 s6 s7 wx => ∃ (k : Nat) (fr : Int), 0 ≤ fr ∧ fr ≤ 256 ∧ s5 = .int .i64 k ∧ s6 = .int .i64 (nextP es fr m).1 ∧ s7 = .bool (nextP es fr m).2 ∧ k + cntFrom es fr m = countP es m ∧ wx.heap[w.heap.size]? = some (.cells #[.int .i64 (h : Int), .slice A n cap, .int .i64 v, .int .i64 mm] 28 (0, 0)) ∧ Below w.heap.size w wx) (fun s5 s6 s7 wx => countP es m - (intOf s5).toNat)
  case atStart => exact ⟨0, 0, by omega, by omega, rfl, rfl, rfl, by rw [HC.out, Nat.zero_add], HX1.out, HW1.out⟩
  case round =>
    clear HX HW HX1 HW1
    obtain ⟨k, fr, f0, f1, rfl, rfl, rfl, hcnt, hX, hW⟩ := hrel
    have HX := Lib.hid hX
    have HW := Lib.hid hW
    have x0 := cells_at hX 0; have x1 := cells_at hX 1; have x2 := cells_at hX 2; have x3 := cells_at hX 3; simp only [List.getElem?_toArray, List.getElem?_cons_zero, List.getElem?_cons_succ] at x0 x1 x2 x3
    clear hX hW
    cases hnx : (nextP es fr m).2 with
    | false =>
      have HR := Lib.hid (show k = countP es m by have := cntFrom_none hnx; omega)
      clear hnx hcnt
      go_wp2
      go_ret
      exact ⟨by rw [← HR.out]; rfl, HW.out⟩
    | true =>
      obtain ⟨g1, g2, e, he, g3⟩ := cntFrom_next HS.out hnx
      obtain ⟨g4, g5⟩ := HM.out e he
      rw [g3] at g4 g5
      have HCN := Lib.hid (show k + 1 + cntFrom es ((nextP es fr m).1 + 1) m = countP es m by omega)
      have hle := HLN.out
      have hkl : k + 1 ≤ countP es m := by omega
      generalize (nextP es fr m).1 = ii at *
      generalize countP es m = cp at *
      clear hnx hcnt g1 g2 he g3
      go_wp2_with (go_at_call 13; (with_reducible refine Calls.mono (hne _ _ HW.out) ?_); rintro e w1 ⟨rfl, hb1⟩)
      go_roundw
      case rel => exact ⟨k + 1, ii + 1, by omega, by omega, by go_num, rfl, rfl, HCN.out, bk_step HX.out hb1, bl_step HW.out hb1⟩
      case measure => simp [intOf]; omega

end Go.Proofs.Ytpoagdffpajdjaa
