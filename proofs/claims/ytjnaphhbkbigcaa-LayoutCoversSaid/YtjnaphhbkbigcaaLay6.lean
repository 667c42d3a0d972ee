/-
  Clone, DeleteFunc, Sort and Compact of the library at rows of numbers that a call owns, by contracts.
-/
import Derived.Test.YtjnaphhbkbigcaaLay1
import Derived.Test.YtjnaphhbkbigcaaSorts
import Derived.Shelf.SlicesE.DeleteFunc
namespace Go.Proofs.Ytjnaphhbkbigcaa
open Go.RowKit Go.Sort Go.Lib
set_option linter.unusedVariables false
set_option linter.unusedSimpArgs false

/-- A row of numbers that the call owns. -/
abbrev OwnZ (w : World) (base : Nat) (v : Value) (zs : List Int) : Prop := w.ownsRow base 3 1 v zs.length (zs.map (Value.int .i64))
theorem OwnZ.parts {w : World} {base : Nat} {v : Value} {zs : List Int} (h : OwnZ w base v zs) : (v = .slice none 0 0 ∧ zs = []) ∨ ∃ g cap cur, v = .slice (some ⟨g, 0, none⟩) zs.length cap ∧ base ≤ g ∧ g < w.heap.size ∧ w.heap[g]? = some (.cells cur 3 (0, 0)) ∧ zs.length ≤ cap ∧ cap ≤ maxLen ∧ cur.size = cap * 1 ∧ cur.toList.take zs.length = zs.map (Value.int .i64) := by
  rcases h.2 with ⟨h1, h2⟩ | ⟨g, cap, cur, a1, a2, a3, a4, a5, a6, a7⟩
  · exact .inl ⟨h1, List.eq_nil_of_length_eq_zero h2⟩
  · exact .inr ⟨g, cap, cur, a1, a2, bk_lt a3, a3, a4, a5, a6, by simpa using a7⟩
theorem clone_w (A : Option Addr) (zs : List Int) (cap : Nat) (w : World) (h : ZA w A zs) (hl : zs.length ≤ 1000) :
    Calls Try.prog 28 #[.slice A zs.length cap] w fun e w' => ∃ v, e = .returned v ∧ OwnZ w' w.heap.size v zs ∧ Below w.heap.size w w' := by
  by_cases h0 : zs = []
  · subst h0
    cases A with
    | none => exact (Try.slices_Clone_int_nil 0 cap w).mono fun e w' ⟨he, hw⟩ => ⟨_, he, by subst hw; exact World.ownsRow_nil _ _ _ _, by subst hw; exact Below.refl _ _⟩
    | some a => exact (Try.slices_Clone_int_zero a cap w).mono fun e w' ⟨v, he, ho, _, hb⟩ => ⟨v, he, ho, hb⟩
  · rcases h with h | ⟨b, o, rfl, hb, hc⟩
    · exact absurd h h0
    · refine (Try.slices_Clone_int b o zs.length cap zs w (Nat.le_refl _) (by omega) (fun j hj => ?_)).mono fun e w' ⟨v, he, ho, _, hb⟩ => ⟨v, he, by rw [List.take_length] at ho; exact ho, hb⟩
      have he : zs[j]? = some zs[j] := List.getElem?_eq_getElem hj
      rw [hc j _ he]
      simp [List.getD, he]
theorem sort_own (base : Nat) (v : Value) (zs : List Int) (w : World) (h : OwnZ w base v zs) (hb : base ≤ w.heap.size) (hl : zs.length ≤ 1000) :
    Calls Try.prog 30 #[v] w fun e w' => e = .returned (.tuple #[]) ∧ OwnZ w' base v (zs.mergeSort (fun x y => decide (x ≤ y))) ∧ Below base w w' := by
  rcases h.parts with ⟨rfl, rfl⟩ | ⟨g, cap, cur, rfl, hg, hlt, hgh, hn, hm, hs, ht⟩
  · refine (Try.slices_Sort_int_none none 0 w).mono fun e w' ⟨he, hw⟩ => ?_
    subst hw
    refine ⟨he, ?_, Below.refl _ _⟩
    have e : ([] : List Int).mergeSort (fun x y => decide (x ≤ y)) = [] := by simp
    rw [e]
    exact World.ownsRow_nil _ _ _ _
  · refine (Try.slices_Sort_int g 0 cap zs w (holds_of_blockI hgh ht) hlt (by omega)).mono fun e w' ⟨he, n, os, hw⟩ => ?_
    subst hw
    have hlen : (zs.mergeSort (fun x y => decide (x ≤ y))).length = zs.length := List.length_mergeSort _
    refine ⟨he, ?_, ?_⟩
    · have := ownsRow_sortedI (w := w) (base := base) (g := g) (cap := cap) (n := n) (e := 3) (os := os) (ts := zs.mergeSort (fun x y => decide (x ≤ y))) hlen hg hgh hn hm hs
      unfold OwnZ
      rw [hlen]
      exact this
    · exact (Below.refl base w).grown (grownBy_sortedI (w := w) (g := g) (n := n) (os := os) (zs.mergeSort (fun x y => decide (x ≤ y))).toArray) hb (fun k hk => by injection hk with hk; omega)
theorem compact_own (base : Nat) (v : Value) (zs : List Int) (w : World) (h : OwnZ w base v zs) (hb : base ≤ w.heap.size) (hl : zs.length ≤ 1000) :
    Calls Try.prog 31 #[v] w fun e w' => ∃ v', e = .returned v' ∧ OwnZ w' base v' (Lib.compact zs) ∧ Below base w w' := by
  rcases h.parts with ⟨rfl, rfl⟩ | ⟨g, cap, cur, rfl, hg, hlt, hgh, hn, hm, hs, ht⟩
  · refine (Try.slices_Compact_int_empty none 0 w).mono fun e w' ⟨he, hw⟩ => ?_
    subst hw
    exact ⟨_, he, World.ownsRow_nil _ _ _ _, Below.refl _ _⟩
  · refine (Try.slices_Compact_int g 0 cap zs w (holds_of_blockI hgh ht) (by omega) hn).mono fun e w' ⟨he, q, hw⟩ => ?_
    subst hw
    have hle := Lib.compact_length_le zs
    have O3 := Lib.ownsRow_putRow (q := q) (k := (Lib.compact zs).length) (ys := Lib.compact zs ++ List.replicate (zs.length - (Lib.compact zs).length) 0) h (by rw [List.length_append, List.length_replicate]; omega) (by omega)
    rw [List.take_left' rfl] at O3
    exact ⟨_, he, O3, Lib.below_putRow (enc := Value.int .i64) (q := q) (g := g) (Below.refl base w) hg⟩

/-- A page that does not exist. -/
def badP (s p : Int) : Bool := decide (pgP s p < 0)
theorem bad_gives (s p : Int) (B : Nat) (W : World) (hc : W.cell? ⟨B, 0, none⟩ = some (.int .i64 s)) :
    FnGives Try.prog 29 #[.pointer (some ⟨B, 0, none⟩)] #[.int .i64 p] (.bool (badP s p)) W := by
  show Calls Try.prog 29 #[.int .i64 p, .pointer (some ⟨B, 0, none⟩)] W _
  have hp := fun w => pg_w s p w
  have Hb := Lib.hid (show badP s p = decide (pgP s p < 0) from rfl)
  generalize pgP s p = x at hp Hb
  go_enter Try.func29, Try.ntmps29
  go_wp2_with (go_at_call 15; (with_reducible refine Calls.mono (hp _) ?_); rintro e w1 ⟨rfl, rfl⟩)
  go_ret
  exact ⟨ret_bool Hb.out.symm, 0, rfl⟩
theorem bad_at (s : Int) (B : Nat) (w : World) (hB : B < w.heap.size) (hcell : w.cell? ⟨B, 0, none⟩ = some (.int .i64 s)) :
    PredAt Try.prog 29 #[.pointer (some ⟨B, 0, none⟩)] (Value.int .i64) (badP s) w :=
  fun W x hb => bad_gives s x B W ((hb.cell (p := ⟨B, 0, none⟩) hB).trans hcell)
theorem bad_over (s : Int) (B blk off size : Nat) (w : World) (hB : B < w.heap.size) (hne : B ≠ blk) (hcell : w.cell? ⟨B, 0, none⟩ = some (.int .i64 s)) :
    PredOver Try.prog 29 #[.pointer (some ⟨B, 0, none⟩)] (Value.int .i64) (badP s) blk off size w :=
  fun n os dk x _ => bad_gives s x B _ (by
    unfold sortWorld
    rw [cell?_grow _ _ _ (by show B < (putRow _ _ _ _ _).heap.size; rw [size_putRow]; exact hB), cell?_putRow_other _ _ blk off _ _ (Or.inl hne)]
    exact hcell)
theorem index_nil (f : Value) (w : World) : Calls Try.prog 32 #[.slice none 0 0, f] w fun e w' => e = .returned (.int .i64 (-1)) ∧ w' = w := by
  go_enter Try.func32, Try.ntmps32
  go_wp2
  go_loopw [8] (fun i wx => i = .int .i64 0 ∧ wx = w) (fun _ _ => 0)
  case atStart => exact ⟨rfl, rfl⟩
  case round =>
    obtain ⟨rfl, rfl⟩ := hrel
    go_wp2
    go_ret
    exact ⟨rfl, rfl⟩
set_option maxHeartbeats 1000000 in
theorem delete_nil (f : Value) (w : World) : Calls Try.prog 27 #[.slice none 0 0, f] w fun e w' => e = .returned (.slice none 0 0) ∧ w' = w := by
  have hi := fun w => index_nil f w
  go_enter Try.func27, Try.ntmps27
  go_wp2_with (go_at_call 32; (with_reducible refine Calls.mono (hi _) ?_); rintro e w1 ⟨rfl, rfl⟩)
  go_ret
  exact ⟨rfl, rfl⟩
theorem delete_own (base B : Nat) (s : Int) (v : Value) (zs : List Int) (w : World) (h : OwnZ w base v zs) (hb : base ≤ w.heap.size) (hB : B < base) (hcell : w.cell? ⟨B, 0, none⟩ = some (.int .i64 s)) (hl : zs.length ≤ 1000) :
    Calls Try.prog 27 #[v, .func (.func 29) #[] #[.pointer (some ⟨B, 0, none⟩)]] w fun e w' => ∃ v', e = .returned v' ∧ OwnZ w' base v' (zs.filter fun x => !badP s x) ∧ Below base w w' := by
  rcases h.parts with ⟨rfl, rfl⟩ | ⟨g, cap, cur, rfl, hg, hlt, hgh, hn, hm, hs, ht⟩
  · refine (delete_nil _ w).mono fun e w' ⟨he, hw⟩ => ?_
    subst hw
    exact ⟨_, he, World.ownsRow_nil _ _ _ _, Below.refl _ _⟩
  · have eg : ∀ args w, (callFunc 29 args).run Try.prog w = .ok (.enter 29 args) w := enters_of Try.func29 (by kernel_rfl) rfl
    have hcon := AnyE.slices_DeleteFunc Try.del10 (Value.int .i64) (fun _ => rfl) (badP s) 29 #[.pointer (some ⟨B, 0, none⟩)] eg 0 Try.zeroValue3 g 0 cap zs.toArray w (bad_at s B w (by omega) hcell) (bad_over s B g 0 _ w (by omega) (by omega) hcell) (holds_of_blockI hgh ht) (by simp; omega) (by simpa using hn)
    simp only [List.size_toArray] at hcon
    change Calls Try.prog 27 _ _ _ at hcon
    refine hcon.mono fun e w' ⟨he, q, hw⟩ => ?_
    subst hw
    have hle : (zs.filter fun x => !badP s x).length ≤ zs.length := List.length_filter_le _ _
    have O3 := Lib.ownsRow_putRow (q := q) (k := (zs.filter fun x => !badP s x).length) (ys := (zs.filter fun x => !badP s x) ++ List.replicate (zs.length - (zs.filter fun x => !badP s x).length) 0) h (by rw [List.length_append, List.length_replicate]; omega) (by omega)
    rw [List.take_left' rfl] at O3
    exact ⟨_, he, O3, Lib.below_putRow (enc := Value.int .i64) (q := q) (g := g) (Below.refl base w) hg⟩

end Go.Proofs.Ytjnaphhbkbigcaa
