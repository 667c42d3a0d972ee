/-
  Decode of the reference, by contract.
-/
import Derived.Test.YtcgfffkfmnbneaaIno3
import Derived.Test.YtcgfffkfmnbneaaInoEq
import Derived.Outline
namespace Go.Proofs.Ytcgfffkfmnbneaa
open Go.RowKit
set_option linter.unusedVariables false


theorem enc_of (a b c d : UInt8) (f : Int) (h1 : 0 ≤ f) (h2 : f < 8) (hc : (c.toNat : Int) ≤ 128) : encS ((a.toNat : Int) * 256 + b.toNat) c.toNat d.toNat f = secH a b c d f ∧ encE ((a.toNat : Int) * 256 + b.toNat) c.toNat d.toNat f = 0 := by
  have a8 := byte_le a
  have b8 := byte_le b
  have d8 := byte_le d
  have hv : vaB ((a.toNat : Int) * 256 + b.toNat) c.toNat d.toNat = true := by simp [vaB]; omega
  have e1 : ((a.toNat : Int) * 256 + b.toNat) / 256 = a.toNat := by omega
  have e2 : ((a.toNat : Int) * 256 + b.toNat) % 256 = b.toNat := by omega
  simp [encS, encE, hv, h1, h2, e1, e2, by8_to]
theorem enc_not (a b c d : UInt8) (f : Int) (hc : ¬ (c.toNat : Int) ≤ 128) : encE ((a.toNat : Int) * 256 + b.toNat) c.toNat d.toNat f = 1 := by
  have hv : ¬ vaB ((a.toNat : Int) * 256 + b.toNat) c.toNat d.toNat = true := by simp [vaB]; omega
  simp [encE, hv]
theorem toList_eq (a b : ByteArray) : a.toList = b.toList ↔ a = b := by
  rw [ByteArray.toList_eq, ByteArray.toList_eq]
  obtain ⟨⟨x⟩⟩ := a
  obtain ⟨⟨y⟩⟩ := b
  simp
theorem sec_eq (a b c d e g h i : UInt8) (f : Int) : ((secH a b c d f).toList == (sec a b c d e g h i).toList) = (nbU a f == e && nbU b f == g && nbU c f == h && nbU d f == i) := by
  rw [Bool.eq_iff_iff, beq_iff_eq, toList_eq]
  simp only [secH, sec]
  constructor
  · intro h
    injection h with h
    simp at h
    simp [h]
  · simp only [Bool.and_eq_true, beq_iff_eq]
    rintro ⟨⟨⟨rfl, rfl⟩, rfl⟩, rfl⟩
    rfl

set_option maxHeartbeats 400000 in
theorem rdecode_8 (a b c d e g h i : UInt8) (f : Int) (w : World) (h1 : 0 ≤ f) (h2 : f < 8) : Calls Try.prog 14 #[.string (sec a b c d e g h i), .int .i64 f] w (RetDec (ok8 a b c d e g h i f) (((a.toNat : Nat) : Int) * 256 + b.toNat) c.toNat d.toNat w) := by
  have a8 := byte_le a
  have b8 := byte_le b
  have c8 := byte_le c
  have d8 := byte_le d
  obtain ⟨X, hX⟩ : ∃ X, X = encS ((a.toNat : Int) * 256 + b.toNat) c.toNat d.toNat f := ⟨_, rfl⟩
  obtain ⟨E, hE⟩ : ∃ E, E = encE ((a.toNat : Int) * 256 + b.toNat) c.toNat d.toNat f := ⟨_, rfl⟩
  have hr := rencode_w ((a.toNat : Int) * 256 + b.toNat) c.toNat d.toNat f
  rw [← hX, ← hE] at hr
  have HX := Lib.hid hX
  have HE := Lib.hid hE
  clear hX hE
  have t0 : ∀ p, (⟨#[a, b, c, d, e, g, h, i]⟩ : ByteArray)[0]'p = a := fun _ => rfl
  have t1 : ∀ p, (⟨#[a, b, c, d, e, g, h, i]⟩ : ByteArray)[1]'p = b := fun _ => rfl
  have t2 : ∀ p, (⟨#[a, b, c, d, e, g, h, i]⟩ : ByteArray)[2]'p = c := fun _ => rfl
  have t3 : ∀ p, (⟨#[a, b, c, d, e, g, h, i]⟩ : ByteArray)[3]'p = d := fun _ => rfl
  have hs := sec_eq a b c d e g h i f
  have hl : (⟨#[a, b, c, d, e, g, h, i]⟩ : ByteArray).toList = [a, b, c, d, e, g, h, i] := by rw [ByteArray.toList_eq]
  unfold sec at hs ⊢
  rw [hl] at hs
  clear hl
  go_enter Try.func14, Try.ntmps14
  go_upto_region 3 with fail
  go_cut [6] (fun s wx => ∃ D, s = .pointer (some ⟨D, 0, none⟩) ∧ wx.heap[D]? = some (.cells #[.int .i64 ((a.toNat : Int) * 256 + b.toNat), .int .i64 c.toNat, .int .i64 d.toNat] 28 (0, 0)) ∧
      wx.heap[w.heap.size]? = some (.cells #[.int .i64 0, .int .i64 0, .int .i64 0] 28 (0, 0)) ∧ Below w.heap.size w wx)
  case first =>
    go_region
    all_goals go_wp2
    all_goals go_meet
    all_goals
      exact ⟨_, rfl, (heap_drew _ _).trans (heap_at_new _ _ _ (by simp)), (heap_drew _ _).trans <| (Below.heap_alloc _ _ _ (by simp)).trans (heap_alloc_new _ _), (bl_alloc ((Below.refl _ _).alloc (Nat.le_refl _) _) _).drew⟩
  case rest =>
    clear t0 t1 t2 t3
    obtain ⟨D, rfl, hD, hR, hW⟩ := hcut
    have z0 : wc.cell? ⟨D, 0, none⟩ = some (.int .i64 ((a.toNat : Int) * 256 + b.toNat)) := cells_at hD 0
    have z1 : wc.cell? ⟨D, 1, none⟩ = some (.int .i64 c.toNat) := cells_at hD 1
    have z2 : wc.cell? ⟨D, 2, none⟩ = some (.int .i64 d.toNat) := cells_at hD 2
    have lD := (Array.getElem?_eq_some_iff.1 hD).1
    have lR := (Array.getElem?_eq_some_iff.1 hR).1
    have r0 : wc.cell? ⟨w.heap.size, 0, none⟩ = some (.int .i64 0) := cells_at hR 0
    have r1 : wc.cell? ⟨w.heap.size, 1, none⟩ = some (.int .i64 0) := cells_at hR 1
    have r2 : wc.cell? ⟨w.heap.size, 2, none⟩ = some (.int .i64 0) := cells_at hR 2
    have q0 := free_at hR 0
    have q1 := free_at hR 1
    have q2 := free_at hR 2
    clear hD hR
    by_cases hc : (c.toNat : Int) ≤ 128
    · obtain rfl : E = 0 := by rw [HE.out]; exact (enc_of a b c d f h1 h2 hc).2
      have hx : Hid (X = secH a b c d f) := by show X = _; rw [HX.out]; exact (enc_of a b c d f h1 h2 hc).1
      have hk : Hid (ok8 a b c d e g h i f = (nbU a f == e && nbU b f == g && nbU c f == h && nbU d f == i)) := by
        show _ = _
        simp [ok8, hc]
      rw [← hx.out] at hs
      generalize (nbU a f == e && nbU b f == g && nbU c f == h && nbU d f == i) = m at hs hk
      clear HX HE hx
      cases m
      all_goals
        have hok := hk.out
        have HOK := Lib.hid hok
        clear hk hok
        go_wp2_with (go_at_call 12; (with_reducible refine Calls.mono (hr _) ?_); rintro e w1 ⟨rfl, hb⟩; obtain ⟨kc, kf, s1, s2, s3, s4, s5, s6, s7⟩ := kept hb; have m0 := (kc _ 0 lR).trans r0; have m1 := (kc _ 1 lR).trans r1; have m2 := (kc _ 2 lR).trans r2; have n0 := (kf _ 0 lR).trans q0; have n1 := (kf _ 1 lR).trans q1; have n2 := (kf _ 2 lR).trans q2)
      · refine bodyPost_ret (v := .tuple #[.agg #[.int .i64 0, .int .i64 0, .int .i64 0], .bool false]) (by simp [results, Try.results14, go_sem, m0, m1, m2]) rfl ⟨by simp [HOK.out], by (repeat (with_reducible first | assumption | exact Below.refl _ _ | refine bl_alloc ?_ _ | apply Below.drew | refine below_drewN ?_ _ | (apply bl_step2; assumption) | (refine Below.setCell ?_ (Nat.le_refl _) _) | (refine Below.setCell ?_ (by first | omega | (simp; done) | (go_simp; done)) _)))⟩
      · refine bodyPost_ret (v := .tuple #[.agg #[.int .i64 ((a.toNat : Int) * 256 + b.toNat), .int .i64 c.toNat, .int .i64 d.toNat], .bool true]) (by simp [results, Try.results14, go_sem, m0, m1, m2]) rfl ⟨by simp [HOK.out], by (repeat (with_reducible first | assumption | exact Below.refl _ _ | refine bl_alloc ?_ _ | apply Below.drew | refine below_drewN ?_ _ | (apply bl_step2; assumption) | (refine Below.setCell ?_ (Nat.le_refl _) _) | (refine Below.setCell ?_ (by first | omega | (simp; done) | (go_simp; done)) _)))⟩
    · obtain rfl : E = 1 := by rw [HE.out]; exact enc_not a b c d f hc
      have HOK : Hid (ok8 a b c d e g h i f = false) := by
        show _ = _
        simp [ok8, hc]
      clear HX HE hs
      go_wp2_with (go_at_call 12; (with_reducible refine Calls.mono (hr _) ?_); rintro e w1 ⟨rfl, hb⟩; obtain ⟨kc, kf, s1, s2, s3, s4, s5, s6, s7⟩ := kept hb; have m0 := (kc _ 0 lR).trans r0; have m1 := (kc _ 1 lR).trans r1; have m2 := (kc _ 2 lR).trans r2; have n0 := (kf _ 0 lR).trans q0; have n1 := (kf _ 1 lR).trans q1; have n2 := (kf _ 2 lR).trans q2)
      refine bodyPost_ret (v := .tuple #[.agg #[.int .i64 0, .int .i64 0, .int .i64 0], .bool false]) (by simp [results, Try.results14, go_sem, m0, m1, m2]) rfl ⟨by simp [HOK.out], by (repeat (with_reducible first | assumption | exact Below.refl _ _ | refine bl_alloc ?_ _ | apply Below.drew | refine below_drewN ?_ _ | (apply bl_step2; assumption) | (refine Below.setCell ?_ (Nat.le_refl _) _) | (refine Below.setCell ?_ (by first | omega | (simp; done) | (go_simp; done)) _)))⟩

end Go.Proofs.Ytcgfffkfmnbneaa
