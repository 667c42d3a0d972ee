/-
  Entries of package radix; Valid and Entries of the reference; by contracts.
-/
import Derived.Test.YtpoagdffpajdjaaRadH
import Derived.Test.YtpoagdffpajdjaaRadK
namespace Go.Proofs.Ytpoagdffpajdjaa
open Go.RowKit
set_option linter.unusedVariables false
set_option linter.unusedSimpArgs false

theorem ents_last (base : Nat) (c : Cn) : ∀ n : Nat, (noneB n c = true ∧ ents base n c = []) ∨ ∃ l' j, ents base n c = l' ++ [(((base + j : Nat) : Int), (c j).1, (c j).2)] ∧ j < n ∧ c j ≠ (0, 0) ∧ ∀ i, j < i → i < n → c i = (0, 0)
  | 0 => .inl ⟨noneB_true.2 fun i hi => by omega, rfl⟩
  | n + 1 => by
    have hadd := ents_add base n 1 c
    by_cases hc : c n = (0, 0)
    · have h1 : ents (base + n) 1 (sh c n) = [] := ents_none (noneB_true.2 fun i hi => by
        obtain rfl : i = 0 := by omega
        show c (n + 0) = _
        rw [Nat.add_zero]
        exact hc)
      rw [h1, List.append_nil] at hadd
      rcases ents_last base c n with ⟨h2, h3⟩ | ⟨l', j, h2, h3, h4, h5⟩
      · refine .inl ⟨noneB_true.2 fun i hi => ?_, by rw [hadd, h3]⟩
        rcases Nat.lt_or_ge i n with h | h
        · exact noneB_true.1 h2 i h
        · obtain rfl : i = n := by omega
          exact hc
      · refine .inr ⟨l', j, by rw [hadd, h2], by omega, h4, fun i hi hn => ?_⟩
        rcases Nat.lt_or_ge i n with h | h
        · exact h5 i hi h
        · obtain rfl : i = n := by omega
          exact hc
    · have h1 : ents (base + n) 1 (sh c n) = [(((base + n : Nat) : Int), (c n).1, (c n).2)] := ents_one (noneB_false.2 ⟨0, by omega, hc⟩)
      rw [h1] at hadd
      exact .inr ⟨_, n, hadd, by omega, hc, fun i hi hn => by omega⟩
theorem hf_eq {h j : Nat} (h4 : h ≤ 4) (hj : j < 4 ^ h) : hf j = h ↔ (h = 0 ∨ 4 ^ (h - 1) ≤ j) := by
  unfold hf
  match h, h4 with
  | 0, _ => simp at hj; simp [hj]
  | 1, _ => simp at hj ⊢; (repeat' split) <;> omega
  | 2, _ => simp at hj ⊢; (repeat' split) <;> omega
  | 3, _ => simp at hj ⊢; (repeat' split) <;> omega
  | 4, _ => simp at hj ⊢; (repeat' split) <;> omega
  | h + 5, h4 => omega
theorem valid_list {h : Nat} {c : Cn} (h4 : h ≤ 4) (hl : leafy c) (hz : ∀ i, 4 ^ h ≤ i → c i = (0, 0)) :
    (ents 0 (4 ^ h) c = [] ∧ validT h (cano h c) = decide (h = 0)) ∨ ∃ (l' : List En) (j : Nat) (x y : Int), ents 0 (4 ^ h) c = l' ++ [((j : Int), x, y)] ∧ j < 256 ∧ validT h (cano h c) = decide (h = hf j) := by
  have hp : 4 ^ h ≤ 256 := show 4 ^ h ≤ 4 ^ 4 from Nat.pow_le_pow_right (by omega) h4
  have hv : validT h (cano h c) = (decide (h = 0) || highT (cano h c)) := by
    unfold validT
    rw [decide_eq_true (show 0 ≤ (h : Int) ∧ (h : Int) ≤ 4 by omega), Int.toNat_natCast, right_cano h hl]
    simp
  rw [hv]
  rcases ents_last 0 c (4 ^ h) with ⟨h1, h2⟩ | ⟨l', j, h2, h3, h4', h5⟩
  · refine .inl ⟨h2, ?_⟩
    rw [cano_none h1]
    simp [highT, T.nil, T.kids, someK]
  · refine .inr ⟨l', j, _, _, by rw [h2, Nat.zero_add], by omega, ?_⟩
    rw [Bool.eq_iff_iff, Bool.or_eq_true, decide_eq_true_eq, decide_eq_true_eq, eq_comm (b := hf j), hf_eq h4 h3]
    rcases h with _ | h
    · simp
    · rw [high_cano]
      constructor
      · rintro (h0 | ⟨i, g1, g2, g3⟩)
        · omega
        · refine .inr ?_
          apply Classical.byContradiction
          intro hlt
          exact g3 (h5 i (by simp at hlt; omega) g2)
      · rintro (h0 | h0)
        · omega
        · exact .inr ⟨j, by simpa using h0, h3, h4'⟩
/-- Entries come back, in memory of the call's own. -/
def RetE (l : List En) (w : World) (e : Ending) (w' : World) : Prop := ∃ v, e = .returned v ∧ w'.ownsRow w.heap.size 48 3 v l.length (ens l) ∧ Below w.heap.size w w'
theorem RetE.of {l : List En} {w wx w' : World} {v : Value} (hw : Below w.heap.size w wx) (h : LS wx (.slice none 0 0) w.heap.size l v w') : RetE l w (.returned v) w' :=
  ⟨v, rfl, h.own, hw.trans ((show Below wx.heap.size wx w' from ⟨h.gr.os, h.gr.tape, h.gr.output, h.gr.size, fun k hk => h.gr.block k hk (by simp [Value.ownBlock])⟩).mono hw.size)⟩
set_option maxRecDepth 100000 in
set_option maxHeartbeats 2000000 in
theorem entries_w (h : Nat) (c : Cn) (A : Option Addr) (cap : Nat) (S : Nat → Prop) (w : World) (hl : leafy c) (ht : TreeOk h c) (hcap : (cano h c).kids.length ≤ cap) (hk : NK w S A (cano h c).kids) :
    Calls Try.prog 24 #[trV h A (cano h c).kids.length cap (cano h c).val (cano h c).marks] w (RetE (ents 0 (4 ^ h) c) w) := by
  have h4 := ht.1
  have hp : 4 ^ h ≤ 256 := show 4 ^ h ≤ 4 ^ 4 from Nat.pow_le_pow_right (by omega) h4
  have hva := fun w' (hb : Below w.heap.size w w') => valid_w h (cano h c) A cap S w' (cano_ml _ _) hcap (hk.step hb)
  rw [valid_of hl ht] at hva
  have hli := fun w' (hb : Below w.heap.size w w') => list_w h c A cap (.slice none 0 0) w.heap.size [] 0 w' h4 (by omega) (by simp; omega) hcap hb.size ((hk.step hb).weak fun _ _ _ => by simp [Value.ownBlock]) (World.ownsRow_nil _ _ _ _)
  rw [List.nil_append] at hli
  obtain ⟨n, hn⟩ : ∃ n, (cano h c).kids.length = n := ⟨_, rfl⟩
  obtain ⟨v, hv⟩ : ∃ v, (cano h c).val = v := ⟨_, rfl⟩
  obtain ⟨mm, hm⟩ : ∃ m, (cano h c).marks = m := ⟨_, rfl⟩
  have hsi := fun w => size_w h A n cap v mm w h4
  rw [hn, hv, hm] at hva hli ⊢
  have HX := Lib.hid (heap_alloc_at w (.cells #[.int .i64 (h : Int), .slice A n cap, .int .i64 v, .int .i64 mm] 28))
  have HW := Lib.hid (bl_alloc (Below.refl w.heap.size w) (.cells #[.int .i64 (h : Int), .slice A n cap, .int .i64 v, .int .i64 mm] 28))
  generalize ents 0 (4 ^ h) c = es at hli ⊢
  generalize 4 ^ h = p at hli hsi
  clear hn hv hm hk hl ht hcap hp
  go_enter Try.func24, Try.ntmps24
  go_upto_region 3 with (go_at_call 15; (with_reducible refine Calls.mono (hva _ (by (repeat (with_reducible first | assumption | exact Below.refl _ _ | refine bl_alloc ?_ _ | apply Below.drew | refine below_drewN ?_ _ | (apply bl_step2; assumption) | (refine Below.setCell ?_ (Nat.le_refl _) _) | (refine Below.setCell ?_ (by first | omega | (simp; done) | (go_simp; done)) _))))) ?_); rintro e w1 ⟨rfl, hb1⟩)
  have HX1 := Lib.hid (bk_step HX.out hb1)
  have HW1 := Lib.hid (bl_step HW.out hb1)
  have lX := bk_lt HX1.out
  have x0 := cells_at HX1.out 0; have x1 := cells_at HX1.out 1; have x2 := cells_at HX1.out 2; have x3 := cells_at HX1.out 3; simp only [List.getElem?_toArray, List.getElem?_cons_zero, List.getElem?_cons_succ] at x0 x1 x2 x3
  clear hva hb1 HX HW
  refine wp_region_sp 4 11 [SP.eq (.pointer (some ⟨w.heap.size, 1, none⟩)), SP.eq (ndV A n cap v mm), SP.eq (trV h A n cap v mm), SP.eq (.int .i64 p)] (by kernel_rfl) (by kernel_rfl) rfl ?_
  simp only [List.take_succ_cons, List.take_zero, List.drop_succ_cons, List.drop_zero]
  refine relWalk_cons (fun x hC hd K hK => ?_) (fun v0 => ?_)
  · go_simp
    exact hK _ _ hC (Below.refl _ _) rfl
  simp only [Act.put, List.setIfInBounds_toArray, List.set_cons_zero, List.set_cons_succ]
  refine relWalk_cons (fun x hC hd K hK => ?_) (fun v1 => ?_)
  · obtain rfl : v0 = _ := hd 0 (by kernel_rfl)
    have y1 := (hC.cell (p := ⟨w.heap.size, _, none⟩) lX).trans x1
    have y2 := (hC.cell (p := ⟨w.heap.size, _, none⟩) lX).trans x2
    have y3 := (hC.cell (p := ⟨w.heap.size, _, none⟩) lX).trans x3
    go_simp
    exact hK _ _ hC (Below.refl _ _) rfl
  simp only [Act.put, List.setIfInBounds_toArray, List.set_cons_zero, List.set_cons_succ]
  refine relWalk_cons (fun x hC hd K hK => ?_) (fun v2 => ?_)
  · have y0 := (hC.cell (p := ⟨w.heap.size, _, none⟩) lX).trans x0
    have y1 := (hC.cell (p := ⟨w.heap.size, _, none⟩) lX).trans x1
    have y2 := (hC.cell (p := ⟨w.heap.size, _, none⟩) lX).trans x2
    have y3 := (hC.cell (p := ⟨w.heap.size, _, none⟩) lX).trans x3
    go_simp
    exact hK _ _ hC (Below.refl _ _) rfl
  simp only [Act.put, List.setIfInBounds_toArray, List.set_cons_zero, List.set_cons_succ]
  refine relWalk_cons (fun x hC hd K hK => ?_) (fun v3 => ?_)
  · obtain rfl : v2 = _ := hd 2 (by kernel_rfl)
    go_simp
    go_at_call 42
    refine (hsi x).mono ?_
    rintro e w1 ⟨rfl, hb1⟩
    exact hK _ _ (bl_step hC hb1) hb1 rfl
  simp only [Act.put, List.setIfInBounds_toArray, List.set_cons_zero, List.set_cons_succ]
  refine relWalk_nil ?_
  intro x hC hG
  obtain rfl : v1 = _ := hG 1 (by omega)
  obtain rfl : v3 = _ := hG 3 (by omega)
  have HW2 := Lib.hid (bl_step HW1.out hC)
  clear hG hC x0 x1 x2 x3
  go_wp2_with (go_at_call 53; (with_reducible refine Calls.mono (hli _ HW2.out) ?_); rintro e w2 ⟨vv, rfl, hS⟩)
  go_ret
  exact RetE.of HW2.out hS

end Go.Proofs.Ytpoagdffpajdjaa
