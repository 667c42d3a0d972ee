/-
  Choose of both packages, by contracts.
-/
import Derived.Test.YtcgfffkfmnbneaaIno6
namespace Go.Proofs.Ytcgfffkfmnbneaa
open Go.RowKit
set_option linter.unusedVariables false
set_option linter.unusedSimpArgs false

/-- Whether the second sector is chosen. -/
def pk (o1 o2 : Bool) (q1 q2 : Int) : Bool := o2 && (!o1 || decide (q1 < q2))
def RetC (o1 o2 : Bool) (q1 s1 b1 q2 s2 b2 : Int) (w : World) (e : Ending) (w' : World) : Prop :=
  e = .returned (.tuple #[.agg #[.int .i64 (if pk o1 o2 q1 q2 = true then q2 else q1), .int .i64 (if pk o1 o2 q1 q2 = true then s2 else s1), .int .i64 (if pk o1 o2 q1 q2 = true then b2 else b1)], .int .i64 (if pk o1 o2 q1 q2 = true then 1 else 0), .bool (o1 || o2)]) ∧ Below w.heap.size w w'

set_option maxHeartbeats 1000000 in
theorem choose_any (a b : ByteArray) (f : Int) (w : World) (o1 o2 : Bool) (q1 s1 b1 q2 s2 b2 : Int) (HZ : o1 = false → q1 = 0 ∧ s1 = 0 ∧ b1 = 0)
    (hA : ∀ w, Calls Try.prog 13 #[.string a, .int .i64 f] w (RetD o1 q1 s1 b1 w)) (hB : ∀ w, Calls Try.prog 13 #[.string b, .int .i64 f] w (RetD o2 q2 s2 b2 w)) :
    Calls Try.prog 15 #[.string a, .string b, .int .i64 f] w (RetC o1 o2 q1 s1 b1 q2 s2 b2 w) := by
  have HZ' := Lib.hid HZ
  clear HZ
  go_enter Try.func15, Try.ntmps15
  go_upto_region 1 with fail
  go_cut [9, 10] (fun s9 s10 wx => ∃ B, s9 = .pointer (some ⟨B, 0, none⟩) ∧ s10 = .bool o1 ∧ wx.heap[B]? = some (.cells #[.int .i64 q1, .int .i64 s1, .int .i64 b1] 28 (0, 0)) ∧
      wx.heap[w.heap.size]? = some (.cells #[.int .i64 0, .int .i64 0, .int .i64 0] 28 (0, 0)) ∧ Below w.heap.size w wx)
  case first =>
    go_wp2_with (go_at_call 13; (with_reducible refine Calls.mono (hA _) ?_); rintro e w1 ⟨rfl, hb⟩)
    go_meet
    case rel => exact ⟨_, rfl, rfl, heap_at_new _ _ _ rfl, (heap_at_old _ _ _ (Nat.lt_of_lt_of_le (by simp) hb.size)).trans ((hb.block _ (by simp)).trans (heap_at_new _ _ _ rfl)), bl_alloc (bl_step ((Below.refl _ _).alloc (Nat.le_refl _) _) hb) _⟩
  case rest =>
    obtain ⟨B, rfl, rfl, hB0, hR0, hW0⟩ := hcut
    go_upto_region 2 with fail
    go_cut [11, 12] (fun s11 s12 wx => ∃ C, s11 = .pointer (some ⟨C, 0, none⟩) ∧ s12 = .bool o2 ∧ wx.heap[C]? = some (.cells #[.int .i64 q2, .int .i64 s2, .int .i64 b2] 28 (0, 0)) ∧ wx.heap[B]? = some (.cells #[.int .i64 q1, .int .i64 s1, .int .i64 b1] 28 (0, 0)) ∧
        wx.heap[w.heap.size]? = some (.cells #[.int .i64 0, .int .i64 0, .int .i64 0] 28 (0, 0)) ∧ Below w.heap.size w wx)
    case first =>
      have lB := (Array.getElem?_eq_some_iff.1 hB0).1
      have lR := (Array.getElem?_eq_some_iff.1 hR0).1
      have HB0 := Lib.hid hB0
      have HR0 := Lib.hid hR0
      clear hB0 hR0
      go_wp2_with (go_at_call 13; (with_reducible refine Calls.mono (hB _) ?_); rintro e w1 ⟨rfl, hb⟩)
      go_meet
      case rel => exact ⟨_, rfl, rfl, heap_at_new _ _ _ rfl, (heap_at_old _ _ _ (Nat.lt_of_lt_of_le lB hb.size)).trans ((hb.block _ lB).trans HB0.out), (heap_at_old _ _ _ (Nat.lt_of_lt_of_le lR hb.size)).trans ((hb.block _ lR).trans HR0.out), bl_alloc (bl_step hW0 hb) _⟩
    case rest =>
      clear hB0 hR0 hW0
      obtain ⟨C, rfl, rfl, hC, hB0, hR0, hW⟩ := hcut
      have m0 := cells_at hB0 0
      have m1 := cells_at hB0 1
      have m2 := cells_at hB0 2
      have k0 := cells_at hC 0
      have k1 := cells_at hC 1
      have k2 := cells_at hC 2
      have r0 := cells_at hR0 0
      have r1 := cells_at hR0 1
      have r2 := cells_at hR0 2
      have n0 := free_at hR0 0
      have n1 := free_at hR0 1
      have n2 := free_at hR0 2
      simp only [List.getElem?_toArray, List.getElem?_cons_zero, List.getElem?_cons_succ] at m0 m1 m2 k0 k1 k2 r0 r1 r2
      clear hC hB0 hR0 hA hB
      by_cases hq : q1 < q2
      · have HP : Hid (pk o1 o2 q1 q2 = (o2 && true)) := by
          show _ = _
          simp [pk, hq]
        have gd : True := trivial
        cases o1 <;> cases o2
        all_goals go_wp2
        · refine bodyPost_ret (v := .tuple #[.agg #[.int .i64 q1, .int .i64 s1, .int .i64 b1], .int .i64 0, .bool false]) (by first | (simp [results, Try.results15, go_sem, r0, r1, r2, m0, m1, m2]; done) | (obtain ⟨z1, z2, z3⟩ := HZ'.out (by first | rfl | trivial); simp [results, Try.results15, go_sem, r0, r1, r2, z1, z2, z3]; done)) rfl ⟨by rw [HP.out]; rfl, by (repeat (with_reducible first | assumption | exact Below.refl _ _ | refine bl_alloc ?_ _ | apply Below.drew | refine below_drewN ?_ _ | (apply bl_step2; assumption) | (refine Below.setCell ?_ (Nat.le_refl _) _) | (refine Below.setCell ?_ (by first | omega | (simp; done) | (go_simp; done)) _)))⟩
        · refine bodyPost_ret (v := .tuple #[.agg #[.int .i64 q2, .int .i64 s2, .int .i64 b2], .int .i64 1, .bool true]) (by simp [results, Try.results15, go_sem, r0, r1, r2, k0, k1, k2]) rfl ⟨by rw [HP.out]; rfl, by (repeat (with_reducible first | assumption | exact Below.refl _ _ | refine bl_alloc ?_ _ | apply Below.drew | refine below_drewN ?_ _ | (apply bl_step2; assumption) | (refine Below.setCell ?_ (Nat.le_refl _) _) | (refine Below.setCell ?_ (by first | omega | (simp; done) | (go_simp; done)) _)))⟩
        · refine bodyPost_ret (v := .tuple #[.agg #[.int .i64 q1, .int .i64 s1, .int .i64 b1], .int .i64 0, .bool true]) (by simp [results, Try.results15, go_sem, r0, r1, r2, m0, m1, m2]) rfl ⟨by rw [HP.out]; rfl, by (repeat (with_reducible first | assumption | exact Below.refl _ _ | refine bl_alloc ?_ _ | apply Below.drew | refine below_drewN ?_ _ | (apply bl_step2; assumption) | (refine Below.setCell ?_ (Nat.le_refl _) _) | (refine Below.setCell ?_ (by first | omega | (simp; done) | (go_simp; done)) _)))⟩
        · refine bodyPost_ret (v := .tuple #[.agg #[.int .i64 q2, .int .i64 s2, .int .i64 b2], .int .i64 1, .bool true]) (by simp [results, Try.results15, go_sem, r0, r1, r2, k0, k1, k2]) rfl ⟨by rw [HP.out]; rfl, by (repeat (with_reducible first | assumption | exact Below.refl _ _ | refine bl_alloc ?_ _ | apply Below.drew | refine below_drewN ?_ _ | (apply bl_step2; assumption) | (refine Below.setCell ?_ (Nat.le_refl _) _) | (refine Below.setCell ?_ (by first | omega | (simp; done) | (go_simp; done)) _)))⟩
      · have HP : Hid (pk o1 o2 q1 q2 = (o2 && !o1)) := by
          show _ = _
          simp [pk, hq]
        have hq' : q2 ≤ q1 := by omega
        cases o1 <;> cases o2
        all_goals go_wp2
        · refine bodyPost_ret (v := .tuple #[.agg #[.int .i64 q1, .int .i64 s1, .int .i64 b1], .int .i64 0, .bool false]) (by first | (simp [results, Try.results15, go_sem, r0, r1, r2, m0, m1, m2]; done) | (obtain ⟨z1, z2, z3⟩ := HZ'.out (by first | rfl | trivial); simp [results, Try.results15, go_sem, r0, r1, r2, z1, z2, z3]; done)) rfl ⟨by rw [HP.out]; rfl, by (repeat (with_reducible first | assumption | exact Below.refl _ _ | refine bl_alloc ?_ _ | apply Below.drew | refine below_drewN ?_ _ | (apply bl_step2; assumption) | (refine Below.setCell ?_ (Nat.le_refl _) _) | (refine Below.setCell ?_ (by first | omega | (simp; done) | (go_simp; done)) _)))⟩
        · refine bodyPost_ret (v := .tuple #[.agg #[.int .i64 q2, .int .i64 s2, .int .i64 b2], .int .i64 1, .bool true]) (by simp [results, Try.results15, go_sem, r0, r1, r2, k0, k1, k2]) rfl ⟨by rw [HP.out]; rfl, by (repeat (with_reducible first | assumption | exact Below.refl _ _ | refine bl_alloc ?_ _ | apply Below.drew | refine below_drewN ?_ _ | (apply bl_step2; assumption) | (refine Below.setCell ?_ (Nat.le_refl _) _) | (refine Below.setCell ?_ (by first | omega | (simp; done) | (go_simp; done)) _)))⟩
        · refine bodyPost_ret (v := .tuple #[.agg #[.int .i64 q1, .int .i64 s1, .int .i64 b1], .int .i64 0, .bool true]) (by simp [results, Try.results15, go_sem, r0, r1, r2, m0, m1, m2]) rfl ⟨by rw [HP.out]; rfl, by (repeat (with_reducible first | assumption | exact Below.refl _ _ | refine bl_alloc ?_ _ | apply Below.drew | refine below_drewN ?_ _ | (apply bl_step2; assumption) | (refine Below.setCell ?_ (Nat.le_refl _) _) | (refine Below.setCell ?_ (by first | omega | (simp; done) | (go_simp; done)) _)))⟩
        · refine bodyPost_ret (v := .tuple #[.agg #[.int .i64 q1, .int .i64 s1, .int .i64 b1], .int .i64 0, .bool true]) (by simp [results, Try.results15, go_sem, r0, r1, r2, m0, m1, m2]) rfl ⟨by rw [HP.out]; rfl, by (repeat (with_reducible first | assumption | exact Below.refl _ _ | refine bl_alloc ?_ _ | apply Below.drew | refine below_drewN ?_ _ | (apply bl_step2; assumption) | (refine Below.setCell ?_ (Nat.le_refl _) _) | (refine Below.setCell ?_ (by first | omega | (simp; done) | (go_simp; done)) _)))⟩
set_option maxHeartbeats 1000000 in
theorem rchoose_any (a b : ByteArray) (f : Int) (w : World) (o1 o2 : Bool) (q1 s1 b1 q2 s2 b2 : Int) (HZ : o1 = false → q1 = 0 ∧ s1 = 0 ∧ b1 = 0)
    (hA : ∀ w, Calls Try.prog 14 #[.string a, .int .i64 f] w (RetD o1 q1 s1 b1 w)) (hB : ∀ w, Calls Try.prog 14 #[.string b, .int .i64 f] w (RetD o2 q2 s2 b2 w)) :
    Calls Try.prog 16 #[.string a, .string b, .int .i64 f] w (RetC o1 o2 q1 s1 b1 q2 s2 b2 w) := by
  have HZ' := Lib.hid HZ
  clear HZ
  go_enter Try.func16, Try.ntmps16
  go_upto_region 1 with fail
  go_cut [9, 10] (fun s9 s10 wx => ∃ B, s9 = .pointer (some ⟨B, 0, none⟩) ∧ s10 = .bool o1 ∧ wx.heap[B]? = some (.cells #[.int .i64 q1, .int .i64 s1, .int .i64 b1] 28 (0, 0)) ∧
      wx.heap[w.heap.size]? = some (.cells #[.int .i64 0, .int .i64 0, .int .i64 0] 28 (0, 0)) ∧ Below w.heap.size w wx)
  case first =>
    go_wp2_with (go_at_call 14; (with_reducible refine Calls.mono (hA _) ?_); rintro e w1 ⟨rfl, hb⟩)
    go_meet
    case rel => exact ⟨_, rfl, rfl, heap_at_new _ _ _ rfl, (heap_at_old _ _ _ (Nat.lt_of_lt_of_le (by simp) hb.size)).trans ((hb.block _ (by simp)).trans (heap_at_new _ _ _ rfl)), bl_alloc (bl_step ((Below.refl _ _).alloc (Nat.le_refl _) _) hb) _⟩
  case rest =>
    obtain ⟨B, rfl, rfl, hB0, hR0, hW0⟩ := hcut
    go_upto_region 2 with fail
    go_cut [11, 12] (fun s11 s12 wx => ∃ C, s11 = .pointer (some ⟨C, 0, none⟩) ∧ s12 = .bool o2 ∧ wx.heap[C]? = some (.cells #[.int .i64 q2, .int .i64 s2, .int .i64 b2] 28 (0, 0)) ∧ wx.heap[B]? = some (.cells #[.int .i64 q1, .int .i64 s1, .int .i64 b1] 28 (0, 0)) ∧
        wx.heap[w.heap.size]? = some (.cells #[.int .i64 0, .int .i64 0, .int .i64 0] 28 (0, 0)) ∧ Below w.heap.size w wx)
    case first =>
      have lB := (Array.getElem?_eq_some_iff.1 hB0).1
      have lR := (Array.getElem?_eq_some_iff.1 hR0).1
      have HB0 := Lib.hid hB0
      have HR0 := Lib.hid hR0
      clear hB0 hR0
      go_wp2_with (go_at_call 14; (with_reducible refine Calls.mono (hB _) ?_); rintro e w1 ⟨rfl, hb⟩)
      go_meet
      case rel => exact ⟨_, rfl, rfl, heap_at_new _ _ _ rfl, (heap_at_old _ _ _ (Nat.lt_of_lt_of_le lB hb.size)).trans ((hb.block _ lB).trans HB0.out), (heap_at_old _ _ _ (Nat.lt_of_lt_of_le lR hb.size)).trans ((hb.block _ lR).trans HR0.out), bl_alloc (bl_step hW0 hb) _⟩
    case rest =>
      clear hB0 hR0 hW0
      obtain ⟨C, rfl, rfl, hC, hB0, hR0, hW⟩ := hcut
      have m0 := cells_at hB0 0
      have m1 := cells_at hB0 1
      have m2 := cells_at hB0 2
      have k0 := cells_at hC 0
      have k1 := cells_at hC 1
      have k2 := cells_at hC 2
      have r0 := cells_at hR0 0
      have r1 := cells_at hR0 1
      have r2 := cells_at hR0 2
      have n0 := free_at hR0 0
      have n1 := free_at hR0 1
      have n2 := free_at hR0 2
      simp only [List.getElem?_toArray, List.getElem?_cons_zero, List.getElem?_cons_succ] at m0 m1 m2 k0 k1 k2 r0 r1 r2
      clear hC hB0 hR0 hA hB
      by_cases hq : q1 < q2
      · have HP : Hid (pk o1 o2 q1 q2 = (o2 && true)) := by
          show _ = _
          simp [pk, hq]
        have gd : True := trivial
        cases o1 <;> cases o2
        all_goals go_wp2
        · refine bodyPost_ret (v := .tuple #[.agg #[.int .i64 q1, .int .i64 s1, .int .i64 b1], .int .i64 0, .bool false]) (by first | (simp [results, Try.results16, go_sem, r0, r1, r2, m0, m1, m2]; done) | (obtain ⟨z1, z2, z3⟩ := HZ'.out (by first | rfl | trivial); simp [results, Try.results16, go_sem, r0, r1, r2, z1, z2, z3]; done)) rfl ⟨by rw [HP.out]; rfl, by (repeat (with_reducible first | assumption | exact Below.refl _ _ | refine bl_alloc ?_ _ | apply Below.drew | refine below_drewN ?_ _ | (apply bl_step2; assumption) | (refine Below.setCell ?_ (Nat.le_refl _) _) | (refine Below.setCell ?_ (by first | omega | (simp; done) | (go_simp; done)) _)))⟩
        · refine bodyPost_ret (v := .tuple #[.agg #[.int .i64 q2, .int .i64 s2, .int .i64 b2], .int .i64 1, .bool true]) (by simp [results, Try.results16, go_sem, r0, r1, r2, k0, k1, k2]) rfl ⟨by rw [HP.out]; rfl, by (repeat (with_reducible first | assumption | exact Below.refl _ _ | refine bl_alloc ?_ _ | apply Below.drew | refine below_drewN ?_ _ | (apply bl_step2; assumption) | (refine Below.setCell ?_ (Nat.le_refl _) _) | (refine Below.setCell ?_ (by first | omega | (simp; done) | (go_simp; done)) _)))⟩
        · refine bodyPost_ret (v := .tuple #[.agg #[.int .i64 q1, .int .i64 s1, .int .i64 b1], .int .i64 0, .bool true]) (by simp [results, Try.results16, go_sem, r0, r1, r2, m0, m1, m2]) rfl ⟨by rw [HP.out]; rfl, by (repeat (with_reducible first | assumption | exact Below.refl _ _ | refine bl_alloc ?_ _ | apply Below.drew | refine below_drewN ?_ _ | (apply bl_step2; assumption) | (refine Below.setCell ?_ (Nat.le_refl _) _) | (refine Below.setCell ?_ (by first | omega | (simp; done) | (go_simp; done)) _)))⟩
        · refine bodyPost_ret (v := .tuple #[.agg #[.int .i64 q2, .int .i64 s2, .int .i64 b2], .int .i64 1, .bool true]) (by simp [results, Try.results16, go_sem, r0, r1, r2, k0, k1, k2]) rfl ⟨by rw [HP.out]; rfl, by (repeat (with_reducible first | assumption | exact Below.refl _ _ | refine bl_alloc ?_ _ | apply Below.drew | refine below_drewN ?_ _ | (apply bl_step2; assumption) | (refine Below.setCell ?_ (Nat.le_refl _) _) | (refine Below.setCell ?_ (by first | omega | (simp; done) | (go_simp; done)) _)))⟩
      · have HP : Hid (pk o1 o2 q1 q2 = (o2 && !o1)) := by
          show _ = _
          simp [pk, hq]
        have hq' : q2 ≤ q1 := by omega
        cases o1 <;> cases o2
        all_goals go_wp2
        · refine bodyPost_ret (v := .tuple #[.agg #[.int .i64 q1, .int .i64 s1, .int .i64 b1], .int .i64 0, .bool false]) (by first | (simp [results, Try.results16, go_sem, r0, r1, r2, m0, m1, m2]; done) | (obtain ⟨z1, z2, z3⟩ := HZ'.out (by first | rfl | trivial); simp [results, Try.results16, go_sem, r0, r1, r2, z1, z2, z3]; done)) rfl ⟨by rw [HP.out]; rfl, by (repeat (with_reducible first | assumption | exact Below.refl _ _ | refine bl_alloc ?_ _ | apply Below.drew | refine below_drewN ?_ _ | (apply bl_step2; assumption) | (refine Below.setCell ?_ (Nat.le_refl _) _) | (refine Below.setCell ?_ (by first | omega | (simp; done) | (go_simp; done)) _)))⟩
        · refine bodyPost_ret (v := .tuple #[.agg #[.int .i64 q2, .int .i64 s2, .int .i64 b2], .int .i64 1, .bool true]) (by simp [results, Try.results16, go_sem, r0, r1, r2, k0, k1, k2]) rfl ⟨by rw [HP.out]; rfl, by (repeat (with_reducible first | assumption | exact Below.refl _ _ | refine bl_alloc ?_ _ | apply Below.drew | refine below_drewN ?_ _ | (apply bl_step2; assumption) | (refine Below.setCell ?_ (Nat.le_refl _) _) | (refine Below.setCell ?_ (by first | omega | (simp; done) | (go_simp; done)) _)))⟩
        · refine bodyPost_ret (v := .tuple #[.agg #[.int .i64 q1, .int .i64 s1, .int .i64 b1], .int .i64 0, .bool true]) (by simp [results, Try.results16, go_sem, r0, r1, r2, m0, m1, m2]) rfl ⟨by rw [HP.out]; rfl, by (repeat (with_reducible first | assumption | exact Below.refl _ _ | refine bl_alloc ?_ _ | apply Below.drew | refine below_drewN ?_ _ | (apply bl_step2; assumption) | (refine Below.setCell ?_ (Nat.le_refl _) _) | (refine Below.setCell ?_ (by first | omega | (simp; done) | (go_simp; done)) _)))⟩
        · refine bodyPost_ret (v := .tuple #[.agg #[.int .i64 q1, .int .i64 s1, .int .i64 b1], .int .i64 0, .bool true]) (by simp [results, Try.results16, go_sem, r0, r1, r2, m0, m1, m2]) rfl ⟨by rw [HP.out]; rfl, by (repeat (with_reducible first | assumption | exact Below.refl _ _ | refine bl_alloc ?_ _ | apply Below.drew | refine below_drewN ?_ _ | (apply bl_step2; assumption) | (refine Below.setCell ?_ (Nat.le_refl _) _) | (refine Below.setCell ?_ (by first | omega | (simp; done) | (go_simp; done)) _)))⟩

end Go.Proofs.Ytcgfffkfmnbneaa
