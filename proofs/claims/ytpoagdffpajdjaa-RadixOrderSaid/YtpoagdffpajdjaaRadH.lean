/-
  Marked, Get of package radix; trees that are not valid; by contracts.
-/
import Derived.Test.YtpoagdffpajdjaaRadG
namespace Go.Proofs.Ytpoagdffpajdjaa
open Go.RowKit
set_option linter.unusedVariables false
set_option linter.unusedSimpArgs false

theorem fld_w (A : Option Addr) (cap : Nat) (v m : Int) (w : World) : (Instr.field 26 (ndV A 0 cap v m) 1).run Try.prog w = .ok (.int .i64 v) w := by kernel_rfl
set_option maxRecDepth 100000 in
set_option maxHeartbeats 2000000 in
theorem get_w (h : Nat) (c : Cn) (A : Option Addr) (cap : Nat) (S : Nat → Prop) (i : Int) (w : World) (hl : leafy c) (ht : TreeOk h c) (hcap : (cano h c).kids.length ≤ cap) (hk : NK w S A (cano h c).kids) :
    Calls Try.prog 17 #[trV h A (cano h c).kids.length cap (cano h c).val (cano h c).marks, .int .i64 i] w (RetI (getR c i) w) := by
  have hfi := fun (j : Nat) w' (hj : j < 256) (hb : Below w.heap.size w w') => find_w h c A cap S j w' hj ht hcap (hk.step hb)
  obtain ⟨n, hn⟩ : ∃ n, (cano h c).kids.length = n := ⟨_, rfl⟩
  obtain ⟨v, hv⟩ : ∃ v, (cano h c).val = v := ⟨_, rfl⟩
  obtain ⟨mm, hm⟩ : ∃ m, (cano h c).marks = m := ⟨_, rfl⟩
  have hva := fun w' (hb : Below w.heap.size w w') => valid_w h (cano h c) A cap S w' (cano_ml _ _) hcap (hk.step hb)
  rw [valid_of hl ht] at hva
  rw [hn, hv, hm] at hva ⊢
  have HX := Lib.hid (heap_alloc_at w (.cells #[.int .i64 (h : Int), .slice A n cap, .int .i64 v, .int .i64 mm] 28))
  have HW := Lib.hid (bl_alloc (Below.refl w.heap.size w) (.cells #[.int .i64 (h : Int), .slice A n cap, .int .i64 v, .int .i64 mm] 28))
  rw [hn, hv, hm] at hfi
  clear hn hv hm hk hl ht
  have hin := fun w => inside_b i w
  cases hib : inB i with
  | true =>
    rw [hib] at hin
    obtain ⟨j, rfl⟩ := Int.eq_ofNat_of_zero_le (inB_t hib).1
    have hj := (inB_t hib).2
    have hfj := fun w' hb => hfi j w' (by omega) hb
    have HS := Lib.hid (show getR c j = (c j).1 by unfold getR; rw [hib, Int.toNat_natCast]; rfl)
    clear hfi hib
    generalize c j = y at hfj HS
    have hfld := fun A' cap' w => fld_w A' cap' y.1 y.2 w
    go_enter Try.func17, Try.ntmps17
    go_wp2_with (first
      | (go_at_call 15; (with_reducible refine Calls.mono (hva _ (by (repeat (with_reducible first | assumption | exact Below.refl _ _ | refine bl_alloc ?_ _ | apply Below.drew | refine below_drewN ?_ _ | (apply bl_step2; assumption) | (refine Below.setCell ?_ (Nat.le_refl _) _) | (refine Below.setCell ?_ (by first | omega | (simp; done) | (go_simp; done)) _))))) ?_); rintro e w1 ⟨rfl, hb1⟩; have HX1 := Lib.hid (bk_step HX.out hb1); have HW1 := Lib.hid (bl_step HW.out hb1); have x0 := cells_at HX1.out 0; have x1 := cells_at HX1.out 1; have x2 := cells_at HX1.out 2; have x3 := cells_at HX1.out 3; simp only [List.getElem?_toArray, List.getElem?_cons_zero, List.getElem?_cons_succ] at x0 x1 x2 x3)
      | (go_at_call 49; (with_reducible refine Calls.mono (hin _) ?_); rintro e w2 ⟨rfl, rfl⟩)
      | (go_at_call 50; (with_reducible refine Calls.mono (hfj _ HW1.out) ?_); rintro e w2 ⟨A', cap', rfl, hb2⟩))
    go_ret
    exact ⟨by rw [HS.out]; rfl, bl_step HW1.out hb2⟩
  | false =>
    rw [hib] at hin
    have HS := Lib.hid (show getR c i = 0 by unfold getR; rw [hib]; rfl)
    clear hfi hib
    go_enter Try.func17, Try.ntmps17
    go_wp2_with (first | (go_at_call 15; (with_reducible refine Calls.mono (hva _ (by (repeat (with_reducible first | assumption | exact Below.refl _ _ | refine bl_alloc ?_ _ | apply Below.drew | refine below_drewN ?_ _ | (apply bl_step2; assumption) | (refine Below.setCell ?_ (Nat.le_refl _) _) | (refine Below.setCell ?_ (by first | omega | (simp; done) | (go_simp; done)) _))))) ?_); rintro e w1 ⟨rfl, hb1⟩; have HX1 := Lib.hid (bk_step HX.out hb1); have HW1 := Lib.hid (bl_step HW.out hb1); have x0 := cells_at HX1.out 0; have x1 := cells_at HX1.out 1; have x2 := cells_at HX1.out 2; have x3 := cells_at HX1.out 3; simp only [List.getElem?_toArray, List.getElem?_cons_zero, List.getElem?_cons_succ] at x0 x1 x2 x3) | (go_at_call 49; (with_reducible refine Calls.mono (hin _) ?_); rintro e w2 ⟨rfl, rfl⟩))
    go_ret
    exact ⟨by rw [HS.out]; rfl, HW1.out⟩
set_option maxRecDepth 100000 in
set_option maxHeartbeats 2000000 in
theorem marked_w (h : Nat) (c : Cn) (A : Option Addr) (cap : Nat) (S : Nat → Prop) (i m : Int) (w : World) (hl : leafy c) (ht : TreeOk h c) (hcap : (cano h c).kids.length ≤ cap) (hk : NK w S A (cano h c).kids) :
    Calls Try.prog 19 #[trV h A (cano h c).kids.length cap (cano h c).val (cano h c).marks, .int .i64 i, .int .i64 m] w (RetB (markedR c i m) w) := by
  have hfr := fun w' (hb : Below w.heap.size w w') => frame_w h c A cap S i m w' hl ht hcap (hk.step hb)
  obtain ⟨n, hn⟩ : ∃ n, (cano h c).kids.length = n := ⟨_, rfl⟩
  obtain ⟨v, hv⟩ : ∃ v, (cano h c).val = v := ⟨_, rfl⟩
  obtain ⟨mm, hm⟩ : ∃ m, (cano h c).marks = m := ⟨_, rfl⟩
  have hva := fun w' (hb : Below w.heap.size w w') => valid_w h (cano h c) A cap S w' (cano_ml _ _) hcap (hk.step hb)
  rw [valid_of hl ht] at hva
  rw [hn, hv, hm] at hva ⊢
  have HX := Lib.hid (heap_alloc_at w (.cells #[.int .i64 (h : Int), .slice A n cap, .int .i64 v, .int .i64 mm] 28))
  have HW := Lib.hid (bl_alloc (Below.refl w.heap.size w) (.cells #[.int .i64 (h : Int), .slice A n cap, .int .i64 v, .int .i64 mm] 28))
  rw [hn, hv, hm] at hfr
  clear hn hv hm hk hl ht hva
  by_cases he : (frR c i m).2 = 0
  · obtain ⟨h1, h2, h3, h4⟩ := fr_ok he
    have HS := Lib.hid (show markedR c i m = (andI (c i.toNat).2 m != 0) by unfold markedR; rw [decide_eq_true he]; rfl)
    rw [h4] at hfr
    clear he h1 h2 h3 h4
    generalize c i.toNat = y at hfr HS
    go_enter Try.func19, Try.ntmps19
    go_wp2_with (go_at_call 52; (with_reducible refine Calls.mono (hfr _ (by (repeat (with_reducible first | assumption | exact Below.refl _ _ | refine bl_alloc ?_ _ | apply Below.drew | refine below_drewN ?_ _ | (apply bl_step2; assumption) | (refine Below.setCell ?_ (Nat.le_refl _) _) | (refine Below.setCell ?_ (by first | omega | (simp; done) | (go_simp; done)) _))))) ?_); rintro e w1 ⟨xa, xc, rfl, hb1⟩; have HW1 := Lib.hid (bl_alloc (bl_step HW.out hb1) (.cells #[.slice xa 0 xc, .int .i64 y.1, .int .i64 y.2] 26)))
    go_ret
    exact ⟨ret_bool HS.out.symm, HW1.out⟩
  · have HS := Lib.hid (show markedR c i m = false by unfold markedR; rw [decide_eq_false he]; rfl)
    have e1 : ((frR c i m).2 == 0) = false := beq_eq_false_iff_ne.2 he
    generalize frR c i m = y at hfr e1
    clear he
    go_enter Try.func19, Try.ntmps19
    go_wp2_with (go_at_call 52; (with_reducible refine Calls.mono (hfr _ (by (repeat (with_reducible first | assumption | exact Below.refl _ _ | refine bl_alloc ?_ _ | apply Below.drew | refine below_drewN ?_ _ | (apply bl_step2; assumption) | (refine Below.setCell ?_ (Nat.le_refl _) _) | (refine Below.setCell ?_ (by first | omega | (simp; done) | (go_simp; done)) _))))) ?_); rintro e w1 ⟨xa, xc, rfl, hb1⟩; have HW1 := Lib.hid (bl_alloc (bl_step HW.out hb1) (.cells #[.slice xa 0 xc, .int .i64 y.1.1, .int .i64 y.1.2] 26)))
    go_ret
    exact ⟨ret_bool HS.out.symm, HW1.out⟩

/-! ### Trees that are not valid -/
section
variable (hI : Int) (t : T) (A : Option Addr) (cap : Nat) (S : Nat → Prop) (w : World) (hm : t.kids.length ≤ maxLen) (hcap : t.kids.length ≤ cap) (hk : NK w S A t.kids) (hbad : validT hI t = false)
include hm hcap hk hbad
theorem get_bad (i : Int) : Calls Try.prog 17 #[trV hI A t.kids.length cap t.val t.marks, .int .i64 i] w (RetI 0 w) := by
  have hva := fun w' (hb : Below w.heap.size w w') => valid_w hI t A cap S w' hm hcap (hk.step hb)
  rw [hbad] at hva
  obtain ⟨n, hn⟩ : ∃ n, t.kids.length = n := ⟨_, rfl⟩
  obtain ⟨v, hv⟩ : ∃ v, t.val = v := ⟨_, rfl⟩
  obtain ⟨mm, hm'⟩ : ∃ m, t.marks = m := ⟨_, rfl⟩
  rw [hn, hv, hm'] at hva ⊢
  clear hn hv hm' hk hbad hm hcap
  have HW := Lib.hid (bl_alloc (Below.refl w.heap.size w) (.cells #[.int .i64 hI, .slice A n cap, .int .i64 v, .int .i64 mm] 28))
  go_enter Try.func17, Try.ntmps17
  go_wp2_with (go_at_call 15; (with_reducible refine Calls.mono (hva _ (by (repeat (with_reducible first | assumption | exact Below.refl _ _ | refine bl_alloc ?_ _ | apply Below.drew | refine below_drewN ?_ _ | (apply bl_step2; assumption) | (refine Below.setCell ?_ (Nat.le_refl _) _) | (refine Below.setCell ?_ (by first | omega | (simp; done) | (go_simp; done)) _))))) ?_); rintro e w1 ⟨rfl, hb1⟩)
  go_ret
  exact ⟨rfl, bl_step HW.out hb1⟩
theorem set_bad (i y : Int) : Calls Try.prog 30 #[trV hI A t.kids.length cap t.val t.marks, .int .i64 i, .int .i64 y] w (RetTE zeroC 1 S w) := by
  have hva := fun w' (hb : Below w.heap.size w w') => valid_w hI t A cap S w' hm hcap (hk.step hb)
  rw [hbad] at hva
  obtain ⟨n, hn⟩ : ∃ n, t.kids.length = n := ⟨_, rfl⟩
  obtain ⟨v, hv⟩ : ∃ v, t.val = v := ⟨_, rfl⟩
  obtain ⟨mm, hm'⟩ : ∃ m, t.marks = m := ⟨_, rfl⟩
  rw [hn, hv, hm'] at hva ⊢
  clear hn hv hm' hk hbad hm hcap
  have HR := Lib.hid (heap_at_new (w.alloc (.cells #[.int .i64 hI, .slice A n cap, .int .i64 v, .int .i64 mm] 28)) (.cells #[.int .i64 0, .slice none 0 0, .int .i64 0, .int .i64 0] 28) (w.heap.size + 1) (by simp))
  have HW := Lib.hid (bl_alloc (bl_alloc (Below.refl w.heap.size w) (.cells #[.int .i64 hI, .slice A n cap, .int .i64 v, .int .i64 mm] 28)) (.cells #[.int .i64 0, .slice none 0 0, .int .i64 0, .int .i64 0] 28))
  go_enter Try.func30, Try.ntmps30
  go_wp2_with (first
    | ((go_at_call 15; (with_reducible refine Calls.mono (hva _ (by (repeat (with_reducible first | assumption | exact Below.refl _ _ | refine bl_alloc ?_ _ | apply Below.drew | refine below_drewN ?_ _ | (apply bl_step2; assumption) | (refine Below.setCell ?_ (Nat.le_refl _) _) | (refine Below.setCell ?_ (by first | omega | (simp; done) | (go_simp; done)) _))))) ?_); rintro e w1 ⟨rfl, hb1⟩); have HR1 := Lib.hid (bk_step HR.out hb1); have HW1 := Lib.hid (bl_step HW.out hb1))
    | (refine wpList_store_rowTo rfl 28 (.tmp 6) (.tmp 11) rfl rfl (w.heap.size + 1) #[.int .i64 0, .slice none 0 0, .int .i64 0, .int .i64 0] rfl rfl 28 _ (HR1.out) tree_size rfl (tree_one _ _ _ _ _ _) ?_))
  show bodyPost Try.prog Try.f30 _ _ _ _
  refine bodyPost_ret (tree2_res rfl _ _ (w.heap.size + 1) _ _ _ _ _ _ _ rfl rfl (setRow_heap _ _ _ _ _ _ HR1.out)) rfl ?_
  exact RetTE.err (bl_setRow HW1.out (by omega) _)
theorem frame_bad (i m : Int) : Calls Try.prog 52 #[trV hI A t.kids.length cap t.val t.marks, .int .i64 i, .int .i64 m] w (RetNE (0, 0) 1 w) := by
  have hva := fun w' (hb : Below w.heap.size w w') => valid_w hI t A cap S w' hm hcap (hk.step hb)
  rw [hbad] at hva
  obtain ⟨n, hn⟩ : ∃ n, t.kids.length = n := ⟨_, rfl⟩
  obtain ⟨v, hv⟩ : ∃ v, t.val = v := ⟨_, rfl⟩
  obtain ⟨mm, hm'⟩ : ∃ m, t.marks = m := ⟨_, rfl⟩
  rw [hn, hv, hm'] at hva ⊢
  clear hn hv hm' hk hbad hm hcap
  have HR := Lib.hid (heap_at_new (w.alloc (.cells #[.int .i64 hI, .slice A n cap, .int .i64 v, .int .i64 mm] 28)) (.cells #[.slice none 0 0, .int .i64 0, .int .i64 0] 26) (w.heap.size + 1) (by simp))
  have HW := Lib.hid (bl_alloc (bl_alloc (Below.refl w.heap.size w) (.cells #[.int .i64 hI, .slice A n cap, .int .i64 v, .int .i64 mm] 28)) (.cells #[.slice none 0 0, .int .i64 0, .int .i64 0] 26))
  go_enter Try.func52, Try.ntmps52
  go_wp2_with (first
    | ((go_at_call 15; (with_reducible refine Calls.mono (hva _ (by (repeat (with_reducible first | assumption | exact Below.refl _ _ | refine bl_alloc ?_ _ | apply Below.drew | refine below_drewN ?_ _ | (apply bl_step2; assumption) | (refine Below.setCell ?_ (Nat.le_refl _) _) | (refine Below.setCell ?_ (by first | omega | (simp; done) | (go_simp; done)) _))))) ?_); rintro e w1 ⟨rfl, hb1⟩); have HR1 := Lib.hid (bk_step HR.out hb1); have HW1 := Lib.hid (bl_step HW.out hb1))
    | (refine wpList_store_rowTo rfl 26 (.tmp 6) (.tmp 12) rfl rfl (w.heap.size + 1) #[.slice none 0 0, .int .i64 0, .int .i64 0] rfl rfl 26 _ (HR1.out) node_size rfl (node_one _ _ _ _ _) ?_))
  show bodyPost Try.prog Try.f52 _ _ _ _
  refine bodyPost_ret (node2_res rfl _ _ (w.heap.size + 1) _ _ _ _ _ _ rfl rfl (setRow_heap _ _ _ _ _ _ HR1.out)) rfl ?_
  exact ⟨_, _, rfl, bl_setRow HW1.out (by omega) _⟩
theorem mrk_bad (i m : Int) : Calls Try.prog 32 #[trV hI A t.kids.length cap t.val t.marks, .int .i64 i, .int .i64 m] w (RetTE zeroC 1 S w) := by
  have hfr := fun w' (hb : Below w.heap.size w w') => frame_bad hI t A cap S w' hm hcap (hk.step hb) hbad i m
  have hva := fun w' (hb : Below w.heap.size w w') => valid_w hI t A cap S w' hm hcap (hk.step hb)
  rw [hbad] at hva
  obtain ⟨n, hn⟩ : ∃ n, t.kids.length = n := ⟨_, rfl⟩
  obtain ⟨v, hv⟩ : ∃ v, t.val = v := ⟨_, rfl⟩
  obtain ⟨mm, hm'⟩ : ∃ m, t.marks = m := ⟨_, rfl⟩
  rw [hn, hv, hm'] at hva hfr ⊢
  clear hn hv hm' hk hbad hm hcap
  have HR := Lib.hid (heap_at_new (w.alloc (.cells #[.int .i64 hI, .slice A n cap, .int .i64 v, .int .i64 mm] 28)) (.cells #[.int .i64 0, .slice none 0 0, .int .i64 0, .int .i64 0] 28) (w.heap.size + 1) (by simp))
  have HW := Lib.hid (bl_alloc (bl_alloc (Below.refl w.heap.size w) (.cells #[.int .i64 hI, .slice A n cap, .int .i64 v, .int .i64 mm] 28)) (.cells #[.int .i64 0, .slice none 0 0, .int .i64 0, .int .i64 0] 28))
  go_enter Try.func32, Try.ntmps32
  go_wp2_with (first
    | (go_at_call 52; (with_reducible refine Calls.mono (hfr _ (by (repeat (with_reducible first | assumption | exact Below.refl _ _ | refine bl_alloc ?_ _ | apply Below.drew | refine below_drewN ?_ _ | (apply bl_step2; assumption) | (refine Below.setCell ?_ (Nat.le_refl _) _) | (refine Below.setCell ?_ (by first | omega | (simp; done) | (go_simp; done)) _))))) ?_); rintro e w1 ⟨xa, xc, rfl, hb1⟩; have HR1 := Lib.hid (bk_alloc (bk_step HR.out hb1) (.cells #[.slice xa 0 xc, .int .i64 0, .int .i64 0] 26)); have HW1 := Lib.hid (bl_alloc (bl_step HW.out hb1) (.cells #[.slice xa 0 xc, .int .i64 0, .int .i64 0] 26)))
    | (refine wpList_store_rowTo rfl 28 (.tmp 6) (.tmp 19) rfl rfl (w.heap.size + 1) #[.int .i64 0, .slice none 0 0, .int .i64 0, .int .i64 0] rfl rfl 28 _ (HR1.out) tree_size rfl (tree_one _ _ _ _ _ _) ?_))
  show bodyPost Try.prog Try.f32 _ _ _ _
  refine bodyPost_ret (tree2_res rfl _ _ (w.heap.size + 1) _ _ _ _ _ _ _ rfl rfl (setRow_heap _ _ _ _ _ _ HR1.out)) rfl ?_
  exact RetTE.err (bl_setRow HW1.out (by omega) _)
theorem unmrk_bad (i m : Int) : Calls Try.prog 34 #[trV hI A t.kids.length cap t.val t.marks, .int .i64 i, .int .i64 m] w (RetTE zeroC 1 S w) := by
  have hfr := fun w' (hb : Below w.heap.size w w') => frame_bad hI t A cap S w' hm hcap (hk.step hb) hbad i m
  have hva := fun w' (hb : Below w.heap.size w w') => valid_w hI t A cap S w' hm hcap (hk.step hb)
  rw [hbad] at hva
  obtain ⟨n, hn⟩ : ∃ n, t.kids.length = n := ⟨_, rfl⟩
  obtain ⟨v, hv⟩ : ∃ v, t.val = v := ⟨_, rfl⟩
  obtain ⟨mm, hm'⟩ : ∃ m, t.marks = m := ⟨_, rfl⟩
  rw [hn, hv, hm'] at hva hfr ⊢
  clear hn hv hm' hk hbad hm hcap
  have HR := Lib.hid (heap_at_new (w.alloc (.cells #[.int .i64 hI, .slice A n cap, .int .i64 v, .int .i64 mm] 28)) (.cells #[.int .i64 0, .slice none 0 0, .int .i64 0, .int .i64 0] 28) (w.heap.size + 1) (by simp))
  have HW := Lib.hid (bl_alloc (bl_alloc (Below.refl w.heap.size w) (.cells #[.int .i64 hI, .slice A n cap, .int .i64 v, .int .i64 mm] 28)) (.cells #[.int .i64 0, .slice none 0 0, .int .i64 0, .int .i64 0] 28))
  go_enter Try.func34, Try.ntmps34
  go_wp2_with (first
    | (go_at_call 52; (with_reducible refine Calls.mono (hfr _ (by (repeat (with_reducible first | assumption | exact Below.refl _ _ | refine bl_alloc ?_ _ | apply Below.drew | refine below_drewN ?_ _ | (apply bl_step2; assumption) | (refine Below.setCell ?_ (Nat.le_refl _) _) | (refine Below.setCell ?_ (by first | omega | (simp; done) | (go_simp; done)) _))))) ?_); rintro e w1 ⟨xa, xc, rfl, hb1⟩; have HR1 := Lib.hid (bk_alloc (bk_step HR.out hb1) (.cells #[.slice xa 0 xc, .int .i64 0, .int .i64 0] 26)); have HW1 := Lib.hid (bl_alloc (bl_step HW.out hb1) (.cells #[.slice xa 0 xc, .int .i64 0, .int .i64 0] 26)))
    | (refine wpList_store_rowTo rfl 28 (.tmp 6) (.tmp 19) rfl rfl (w.heap.size + 1) #[.int .i64 0, .slice none 0 0, .int .i64 0, .int .i64 0] rfl rfl 28 _ (HR1.out) tree_size rfl (tree_one _ _ _ _ _ _) ?_))
  show bodyPost Try.prog Try.f34 _ _ _ _
  refine bodyPost_ret (tree2_res rfl _ _ (w.heap.size + 1) _ _ _ _ _ _ _ rfl rfl (setRow_heap _ _ _ _ _ _ HR1.out)) rfl ?_
  exact RetTE.err (bl_setRow HW1.out (by omega) _)
theorem marked_bad (i m : Int) : Calls Try.prog 19 #[trV hI A t.kids.length cap t.val t.marks, .int .i64 i, .int .i64 m] w (RetB false w) := by
  have hfr := fun w' (hb : Below w.heap.size w w') => frame_bad hI t A cap S w' hm hcap (hk.step hb) hbad i m
  have hva := fun w' (hb : Below w.heap.size w w') => valid_w hI t A cap S w' hm hcap (hk.step hb)
  rw [hbad] at hva
  obtain ⟨n, hn⟩ : ∃ n, t.kids.length = n := ⟨_, rfl⟩
  obtain ⟨v, hv⟩ : ∃ v, t.val = v := ⟨_, rfl⟩
  obtain ⟨mm, hm'⟩ : ∃ m, t.marks = m := ⟨_, rfl⟩
  rw [hn, hv, hm'] at hva hfr ⊢
  clear hn hv hm' hk hbad hm hcap
  have HW := Lib.hid (bl_alloc (Below.refl w.heap.size w) (.cells #[.int .i64 hI, .slice A n cap, .int .i64 v, .int .i64 mm] 28))
  go_enter Try.func19, Try.ntmps19
  go_wp2_with (go_at_call 52; (with_reducible refine Calls.mono (hfr _ (by (repeat (with_reducible first | assumption | exact Below.refl _ _ | refine bl_alloc ?_ _ | apply Below.drew | refine below_drewN ?_ _ | (apply bl_step2; assumption) | (refine Below.setCell ?_ (Nat.le_refl _) _) | (refine Below.setCell ?_ (by first | omega | (simp; done) | (go_simp; done)) _))))) ?_); rintro e w1 ⟨xa, xc, rfl, hb1⟩; have HW1 := Lib.hid (bl_alloc (bl_step HW.out hb1) (.cells #[.slice xa 0 xc, .int .i64 0, .int .i64 0] 26)))
  go_ret
  exact ⟨rfl, HW1.out⟩
theorem next_bad (i m : Int) : Calls Try.prog 13 #[trV hI A t.kids.length cap t.val t.marks, .int .i64 i, .int .i64 m] w (fun e w' => e = .returned (.tuple #[.int .i64 0, .bool false]) ∧ Below w.heap.size w w') := by
  have hva := fun w' (hb : Below w.heap.size w w') => valid_w hI t A cap S w' hm hcap (hk.step hb)
  rw [hbad] at hva
  obtain ⟨n, hn⟩ : ∃ n, t.kids.length = n := ⟨_, rfl⟩
  obtain ⟨v, hv⟩ : ∃ v, t.val = v := ⟨_, rfl⟩
  obtain ⟨mm, hm'⟩ : ∃ m, t.marks = m := ⟨_, rfl⟩
  rw [hn, hv, hm'] at hva ⊢
  clear hn hv hm' hk hbad hm hcap
  have HW := Lib.hid (bl_alloc (Below.refl w.heap.size w) (.cells #[.int .i64 hI, .slice A n cap, .int .i64 v, .int .i64 mm] 28))
  go_enter Try.func13, Try.ntmps13
  go_wp2_with (go_at_call 15; (with_reducible refine Calls.mono (hva _ (by (repeat (with_reducible first | assumption | exact Below.refl _ _ | refine bl_alloc ?_ _ | apply Below.drew | refine below_drewN ?_ _ | (apply bl_step2; assumption) | (refine Below.setCell ?_ (Nat.le_refl _) _) | (refine Below.setCell ?_ (by first | omega | (simp; done) | (go_simp; done)) _))))) ?_); rintro e w1 ⟨rfl, hb1⟩)
  go_ret2
  exact ⟨rfl, bl_step HW.out hb1⟩
theorem count_bad (m : Int) : Calls Try.prog 21 #[trV hI A t.kids.length cap t.val t.marks, .int .i64 m] w (RetI 0 w) := by
  have hne := fun w' (hb : Below w.heap.size w w') => next_bad hI t A cap S w' hm hcap (hk.step hb) hbad 0 m
  have hva := fun w' (hb : Below w.heap.size w w') => valid_w hI t A cap S w' hm hcap (hk.step hb)
  rw [hbad] at hva
  obtain ⟨n, hn⟩ : ∃ n, t.kids.length = n := ⟨_, rfl⟩
  obtain ⟨v, hv⟩ : ∃ v, t.val = v := ⟨_, rfl⟩
  obtain ⟨mm, hm'⟩ : ∃ m, t.marks = m := ⟨_, rfl⟩
  rw [hn, hv, hm'] at hva hne ⊢
  clear hn hv hm' hk hbad hm hcap
  have HW := Lib.hid (bl_alloc (Below.refl w.heap.size w) (.cells #[.int .i64 hI, .slice A n cap, .int .i64 v, .int .i64 mm] 28))
  go_enter Try.func21, Try.ntmps21
  go_wp2_with (go_at_call 13; (with_reducible refine Calls.mono (hne _ (by (repeat (with_reducible first | assumption | exact Below.refl _ _ | refine bl_alloc ?_ _ | apply Below.drew | refine below_drewN ?_ _ | (apply bl_step2; assumption) | (refine Below.setCell ?_ (Nat.le_refl _) _) | (refine Below.setCell ?_ (by first | omega | (simp; done) | (go_simp; done)) _))))) ?_); rintro e w1 ⟨rfl, hb1⟩)
  refine wp_loop_rounds 1 ?_
  rw [rounds_succ]; go_wp2
  go_ret
  exact ⟨rfl, bl_step HW.out hb1⟩
theorem entries_bad : Calls Try.prog 24 #[trV hI A t.kids.length cap t.val t.marks] w (fun e w' => e = .returned (.slice none 0 0) ∧ Below w.heap.size w w') := by
  have hva := fun w' (hb : Below w.heap.size w w') => valid_w hI t A cap S w' hm hcap (hk.step hb)
  rw [hbad] at hva
  obtain ⟨n, hn⟩ : ∃ n, t.kids.length = n := ⟨_, rfl⟩
  obtain ⟨v, hv⟩ : ∃ v, t.val = v := ⟨_, rfl⟩
  obtain ⟨mm, hm'⟩ : ∃ m, t.marks = m := ⟨_, rfl⟩
  rw [hn, hv, hm'] at hva ⊢
  clear hn hv hm' hk hbad hm hcap
  have HW := Lib.hid (bl_alloc (Below.refl w.heap.size w) (.cells #[.int .i64 hI, .slice A n cap, .int .i64 v, .int .i64 mm] 28))
  go_enter Try.func24, Try.ntmps24
  go_wp2_with (go_at_call 15; (with_reducible refine Calls.mono (hva _ (by (repeat (with_reducible first | assumption | exact Below.refl _ _ | refine bl_alloc ?_ _ | apply Below.drew | refine below_drewN ?_ _ | (apply bl_step2; assumption) | (refine Below.setCell ?_ (Nat.le_refl _) _) | (refine Below.setCell ?_ (by first | omega | (simp; done) | (go_simp; done)) _))))) ?_); rintro e w1 ⟨rfl, hb1⟩)
  go_ret
  exact ⟨rfl, bl_step HW.out hb1⟩
end

end Go.Proofs.Ytpoagdffpajdjaa
