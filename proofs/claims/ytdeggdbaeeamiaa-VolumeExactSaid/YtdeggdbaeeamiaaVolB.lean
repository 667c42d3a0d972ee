/-
  dock's Volumes, by contract.
-/
import Derived.Test.YtdeggdbaeeamiaaVolA
namespace Go.Proofs.Ytdeggdbaeeamiaa
open Go.RowKit
set_option linter.unusedVariables false
set_option linter.unusedSimpArgs false

abbrev VolT := Int × Int × List Seg
def baseL : Nat → List VolT
  | 0 => [(1, 0, [(0, 0, 12)])]
  | 1 => [(3, 0, [(0, 1, 8), (1, 0, 8)])]
  | 2 => [(2, 2, [(0, 0, 6), (1, 2, 6)]), (1, 0, [(1, 8, 4)])]
  | 3 => [(1, 0, [(0, 3, 5), (1, 0, 4)]), (3, 0, [(2, 0, 3), (1, 6, 3)])]
  | _ => [(1, 0, [(0, 0, 6)]), (1, 0, [(0, 6, 6)])]
/-- A slice of volumes lies in memory. -/
def VLs (B : Nat) (w : World) (v : Value) (vs : List VolT) : Prop :=
  ∃ g cap, v = .slice (some ⟨g, 0, none⟩) vs.length cap ∧ g < w.heap.size ∧ ∀ i kd ch L, vs[i]? = some (kd, ch, L) →
    ∃ b, B ≤ b ∧ w.cell? ⟨g, i * 3, none⟩ = some (.int .i64 kd) ∧ w.cell? ⟨g, i * 3 + 1, none⟩ = some (.int .i64 ch) ∧ w.cell? ⟨g, i * 3 + 2, none⟩ = some (.slice (some ⟨b, 0, none⟩) L.length L.length) ∧ PA w (some ⟨b, 0, none⟩) L
def RetVs (w : World) (e : Ending) (w' : World) : Prop := ∃ v k r, r < 5 ∧ e = .returned (.tuple #[v, .int .i64 k]) ∧ VLs w.heap.size w' v (baseL r) ∧ Below w.heap.size w w'
theorem VLs.one {w : World} {B g b : Nat} {kd ch : Int} {L : List Seg} {t : TypeId} (h : w.heap[g]? = some (.cells #[.int .i64 kd, .int .i64 ch, .slice (some ⟨b, 0, none⟩) L.length L.length] t (0, 0))) (hp : PA w (some ⟨b, 0, none⟩) L) (hB : B ≤ b) :
    VLs B w (.slice (some ⟨g, 0, none⟩) 1 1) [(kd, ch, L)] := by
  refine ⟨g, 1, rfl, bk_lt h, fun i kd' ch' L' hi => ?_⟩
  match i, hi with
  | 0, hi =>
    simp only [List.getElem?_cons_zero, Option.some.injEq, Prod.mk.injEq] at hi
    obtain ⟨rfl, rfl, rfl⟩ := hi
    exact ⟨_, hB, cells_at h 0, cells_at h 1, cells_at h 2, hp⟩
theorem VLs.two {w : World} {B g b b2 : Nat} {kd ch kd2 ch2 : Int} {L L2 : List Seg} {t : TypeId} (h : w.heap[g]? = some (.cells #[.int .i64 kd, .int .i64 ch, .slice (some ⟨b, 0, none⟩) L.length L.length, .int .i64 kd2, .int .i64 ch2, .slice (some ⟨b2, 0, none⟩) L2.length L2.length] t (0, 0)))
    (hp : PA w (some ⟨b, 0, none⟩) L) (hp2 : PA w (some ⟨b2, 0, none⟩) L2) (hB : B ≤ b) (hB2 : B ≤ b2) : VLs B w (.slice (some ⟨g, 0, none⟩) 2 2) [(kd, ch, L), (kd2, ch2, L2)] := by
  refine ⟨g, 2, rfl, bk_lt h, fun i kd' ch' L' hi => ?_⟩
  match i, hi with
  | 0, hi =>
    simp only [List.getElem?_cons_zero, Option.some.injEq, Prod.mk.injEq] at hi
    obtain ⟨rfl, rfl, rfl⟩ := hi
    exact ⟨_, hB, cells_at h 0, cells_at h 1, cells_at h 2, hp⟩
  | 1, hi =>
    simp only [List.getElem?_cons_succ, List.getElem?_cons_zero, Option.some.injEq, Prod.mk.injEq] at hi
    obtain ⟨rfl, rfl, rfl⟩ := hi
    exact ⟨_, hB2, cells_at h 3, cells_at h 4, cells_at h 5, hp2⟩

set_option maxHeartbeats 1000000 in
theorem volumes_w (n : Int) (w : World) : Calls Try.prog 27 #[.int .i64 n] w (RetVs w) := by
  have hr := fun w => round_w n 5 w (by omega) (by omega)
  have ⟨r0, r1⟩ := cutI_range n 5 (by omega)
  generalize cutI n 5 = r at hr r0 r1
  have hc : r = 0 ∨ r = 1 ∨ r = 2 ∨ r = 3 ∨ r = 4 := by omega
  rcases hc with rfl | rfl | rfl | rfl | rfl
  · go_enter Try.func27, Try.ntmps27
    go_wp2_with (go_at_call 15; (with_reducible refine Calls.mono (hr _) ?_); rintro e w1 ⟨rfl, rfl⟩)
    go_ret2
    exact ⟨_, _, 0, by omega, rfl, VLs.one (heap_at_new _ _ _ (by simp)) (PA.alloc (PA.of_block (heap_at_new _ _ _ rfl) rfl) _) (by omega), ((Below.refl _ _).alloc (Nat.le_refl _) _).alloc (by simp) _⟩
  · go_enter Try.func27, Try.ntmps27
    go_wp2_with (go_at_call 15; (with_reducible refine Calls.mono (hr _) ?_); rintro e w1 ⟨rfl, rfl⟩)
    go_ret2
    exact ⟨_, _, 1, by omega, rfl, VLs.one (heap_at_new _ _ _ (by simp)) (PA.alloc (PA.of_block (heap_at_new _ _ _ rfl) rfl) _) (by omega), ((Below.refl _ _).alloc (Nat.le_refl _) _).alloc (by simp) _⟩
  · go_enter Try.func27, Try.ntmps27
    go_wp2_with (go_at_call 15; (with_reducible refine Calls.mono (hr _) ?_); rintro e w1 ⟨rfl, rfl⟩)
    go_ret2
    exact ⟨_, _, 2, by omega, rfl, VLs.two (heap_at_new _ _ _ (by simp)) (PA.alloc (PA.alloc (PA.of_block (heap_at_new _ _ _ rfl) rfl) _) _) (PA.alloc (PA.of_block (heap_at_new _ _ _ (by simp)) rfl) _) (by omega) (by omega), (((Below.refl _ _).alloc (Nat.le_refl _) _).alloc (by simp) _).alloc (by simp; omega) _⟩
  · go_enter Try.func27, Try.ntmps27
    go_wp2_with (go_at_call 15; (with_reducible refine Calls.mono (hr _) ?_); rintro e w1 ⟨rfl, rfl⟩)
    go_ret2
    exact ⟨_, _, 3, by omega, rfl, VLs.two (heap_at_new _ _ _ (by simp)) (PA.alloc (PA.alloc (PA.of_block (heap_at_new _ _ _ rfl) rfl) _) _) (PA.alloc (PA.of_block (heap_at_new _ _ _ (by simp)) rfl) _) (by omega) (by omega), (((Below.refl _ _).alloc (Nat.le_refl _) _).alloc (by simp) _).alloc (by simp; omega) _⟩
  · go_enter Try.func27, Try.ntmps27
    go_wp2_with (go_at_call 15; (with_reducible refine Calls.mono (hr _) ?_); rintro e w1 ⟨rfl, rfl⟩)
    go_ret2
    exact ⟨_, _, 4, by omega, rfl, VLs.two (heap_at_new _ _ _ (by simp)) (PA.alloc (PA.alloc (PA.of_block (heap_at_new _ _ _ rfl) rfl) _) _) (PA.alloc (PA.of_block (heap_at_new _ _ _ (by simp)) rfl) _) (by omega) (by omega), (((Below.refl _ _).alloc (Nat.le_refl _) _).alloc (by simp) _).alloc (by simp; omega) _⟩

end Go.Proofs.Ytdeggdbaeeamiaa
