/-
  Decode of package inode, by contract.
-/
import Derived.Test.YtcgfffkfmnbneaaInoEq
import Derived.Test.YtcgfffkfmnbneaaExt
import Derived.BigRegion
import Derived.Deep.CutBlock
namespace Go.Proofs.Ytcgfffkfmnbneaa
open Go.RowKit
set_option linter.unusedVariables false

theorem arr_of (a : Option Addr) (n c : Nat) (h : 4 ≤ n) (w : World) : (Instr.arrayAt 54 (.slice a n c)).run Try.prog w = .ok (.pointer a) w :=
  run_arrayAt w 54 5 4 a n c Try.underlying54 h

/-- What '[]byte(s)' lays, for four bytes. -/
def row4 (a b c d : UInt8) (cap : Nat) : Array Value := bytesRow ⟨#[a, b, c, d]⟩ cap
theorem row4_at (a b c d : UInt8) (cap : Nat) : (row4 a b c d cap)[0]? = some (.int .u8 a.toNat) ∧ (row4 a b c d cap)[1]? = some (.int .u8 b.toNat) ∧ (row4 a b c d cap)[2]? = some (.int .u8 c.toNat) ∧ (row4 a b c d cap)[3]? = some (.int .u8 d.toNat) :=
  ⟨bytesRow_at ⟨#[a, b, c, d]⟩ cap 0 (by simp), bytesRow_at ⟨#[a, b, c, d]⟩ cap 1 (by simp), bytesRow_at ⟨#[a, b, c, d]⟩ cap 2 (by simp), bytesRow_at ⟨#[a, b, c, d]⟩ cap 3 (by simp)⟩
def cap4 (w : World) : Nat := grownCap w 4 0 5
theorem conv_row4 (a b c d : UInt8) (w : World) : (convert 9 47 (.string ⟨#[a, b, c, d]⟩)).run Try.prog w = .ok (.slice (some ⟨w.heap.size, 0, none⟩) 4 (cap4 w)) (w.drew.alloc (.cells (row4 a b c d (cap4 w)) 5 ((row4 a b c d (cap4 w)).size, (row4 a b c d (cap4 w)).size + 1))) :=
  run_bytes_of_string w 9 47 5 ⟨#[a, b, c, d]⟩ Try.underlying9 Try.underlying47 Try.underlying5

theorem cell_new (w : World) (C : Array Value) (t : TypeId) (fr : Nat × Nat) (n j : Nat) (h : w.heap.size = n) : (w.alloc (.cells C t fr)).cell? ⟨n, j, none⟩ = C[j]? := by
  subst h
  exact World.cell?_alloc_mark w C t fr j
theorem cut_lo (a b c d e g h i : UInt8) : (⟨#[a, b, c, d]⟩ : ByteArray) = (⟨#[a, b, c, d, e, g, h, i]⟩ : ByteArray).extract 0 4 := by rfl
theorem cut_hi (a b c d e g h i : UInt8) : (⟨#[e, g, h, i]⟩ : ByteArray) = (⟨#[a, b, c, d, e, g, h, i]⟩ : ByteArray).extract 4 8 := by rfl
set_option maxHeartbeats 4000000 in
theorem decode_8 (a b c d e g h i : UInt8) (f : Int) (w : World) (h1 : 0 ≤ f) (h2 : f < 8) : Calls Try.prog 13 #[.string (sec a b c d e g h i), .int .i64 f] w (RetDec (ok8 a b c d e g h i f) (((a.toNat : Nat) : Int) * 256 + b.toNat) c.toNat d.toNat w) := by
  have hd : decide (0 ≤ f ∧ f < 8) = true := by simp; omega
  unfold sec
  go_enter Try.func13, Try.ntmps13
  go_upto_region 3 with (go_at_call 25; (with_reducible refine Calls.mono (known_w _ _) ?_); rintro e w2 ⟨rfl, rfl⟩)
  have k1 := conv_row4 a b c d
  have k2 := conv_row4 e g h i
  simp only [show (convert 9 47 (.string ⟨#[a, b, c, d]⟩)) = convert 9 47 (.string ((⟨#[a, b, c, d, e, g, h, i]⟩ : ByteArray).extract 0 4)) from by rw [← cut_lo]] at k1
  simp only [show (convert 9 47 (.string ⟨#[e, g, h, i]⟩)) = convert 9 47 (.string ((⟨#[a, b, c, d, e, g, h, i]⟩ : ByteArray).extract 4 8)) from by rw [← cut_hi]] at k2
  have hcn := cell_new
  have ha := fun a c w => arr_of a 4 c (by omega) w
  obtain ⟨p1, p2, p3, p4⟩ : (∀ k, (row4 a b c d k)[0]? = some (.int .u8 a.toNat)) ∧ (∀ k, (row4 a b c d k)[1]? = some (.int .u8 b.toNat)) ∧ (∀ k, (row4 a b c d k)[2]? = some (.int .u8 c.toNat)) ∧ (∀ k, (row4 a b c d k)[3]? = some (.int .u8 d.toNat)) :=
    ⟨fun k => (row4_at a b c d k).1, fun k => (row4_at a b c d k).2.1, fun k => (row4_at a b c d k).2.2.1, fun k => (row4_at a b c d k).2.2.2⟩
  obtain ⟨q1, q2, q3, q4⟩ : (∀ k, (row4 e g h i k)[0]? = some (.int .u8 e.toNat)) ∧ (∀ k, (row4 e g h i k)[1]? = some (.int .u8 g.toNat)) ∧ (∀ k, (row4 e g h i k)[2]? = some (.int .u8 h.toNat)) ∧ (∀ k, (row4 e g h i k)[3]? = some (.int .u8 i.toNat)) :=
    ⟨fun k => (row4_at e g h i k).1, fun k => (row4_at e g h i k).2.1, fun k => (row4_at e g h i k).2.2.1, fun k => (row4_at e g h i k).2.2.2⟩
  generalize row4 a b c d = R1 at k1 p1 p2 p3 p4
  generalize row4 e g h i = R2 at k2 q1 q2 q3 q4
  go_cut [6, 7] (fun s t wx => ∃ B C, s = .pointer (some ⟨B, 0, none⟩) ∧ t = .pointer (some ⟨C, 0, none⟩) ∧ wx.heap[B]? = some (.cells (hc4 a b c d) 54 (0, 0)) ∧ wx.heap[C]? = some (.cells (hc4 e g h i) 54 (0, 0)) ∧
    wx.heap[w.heap.size]? = some (.cells #[.int .i64 0, .int .i64 0, .int .i64 0] 28 (0, 0)) ∧ Below w.heap.size w wx)
  case first =>
    have hWR : (w.alloc (.cells #[.int .i64 0, .int .i64 0, .int .i64 0] 28)).heap[w.heap.size]? = some (.cells #[.int .i64 0, .int .i64 0, .int .i64 0] 28 (0, 0)) := heap_alloc_new _ _
    have hWB : Below w.heap.size w (w.alloc (.cells #[.int .i64 0, .int .i64 0, .int .i64 0] 28)) := (Below.refl _ _).alloc (Nat.le_refl _) _
    have hWs : w.heap.size < (w.alloc (.cells #[.int .i64 0, .int .i64 0, .int .i64 0] 28)).heap.size := by simp
    generalize w.alloc _ = W at hWR hWB hWs
    have HWR := Lib.hid hWR
    have HWB := Lib.hid hWB
    have HWs := Lib.hid hWs
    clear hWR hWB hWs
    go_region
    all_goals go_wp2
    all_goals go_meet
    all_goals
      have hWs := HWs.out
      have hWB := HWB.out
      refine ⟨_, _, rfl, rfl, ?_, ?_, ?_, ?_⟩
      · unfold hc4
        repeat (with_reducible first | exact heap_at_new _ _ _ (by first | assumption | (simp; done) | (simp; omega)) | refine (heap_drew _ _).trans ?_ | refine (heap_at_old _ _ _ (by first | assumption | (simp; done) | (simp; omega))).trans ?_)
      · unfold hc4
        repeat (with_reducible first | exact heap_at_new _ _ _ (by first | assumption | (simp; done) | (simp; omega)) | refine (heap_drew _ _).trans ?_ | refine (heap_at_old _ _ _ (by first | assumption | (simp; done) | (simp; omega))).trans ?_)
      · repeat (with_reducible first | exact HWR.out | refine (heap_drew _ _).trans ?_ | refine (heap_at_old _ _ _ (by first | assumption | (simp; done) | (simp; omega))).trans ?_)
      · repeat (with_reducible first | exact hWB | apply Below.drew | refine bl_alloc ?_ _)
  case rest =>
    clear k1 k2 ha hcn p1 p2 p3 p4 q1 q2 q3 q4
    obtain ⟨B, C, rfl, rfl, hB, hC, hR, hW⟩ := hcut
    have b0 := (cells_at hB 0).trans (show (hc4 a b c d)[0]? = some (.int .u8 a.toNat) from rfl)
    have b1 := (cells_at hB 1).trans (show (hc4 a b c d)[1]? = some (.int .u8 b.toNat) from rfl)
    have b2 := (cells_at hB 2).trans (show (hc4 a b c d)[2]? = some (.int .u8 c.toNat) from rfl)
    have b3 := (cells_at hB 3).trans (show (hc4 a b c d)[3]? = some (.int .u8 d.toNat) from rfl)
    have a8 := byte_le a
    have b8 := byte_le b
    have c8 := byte_le c
    have d8 := byte_le d
    have ho := or_bytes a b
    go_upto_region 4 with fail
    go_cut [8] (fun s wx => ∃ D, s = .pointer (some ⟨D, 0, none⟩) ∧ wx.heap[D]? = some (.cells #[.int .i64 ((a.toNat : Int) * 256 + b.toNat), .int .i64 c.toNat, .int .i64 d.toNat] 28 (0, 0)) ∧ wx.heap[B]? = some (.cells (hc4 a b c d) 54 (0, 0)) ∧ wx.heap[C]? = some (.cells (hc4 e g h i) 54 (0, 0)) ∧
      wx.heap[w.heap.size]? = some (.cells #[.int .i64 0, .int .i64 0, .int .i64 0] 28 (0, 0)) ∧ Below w.heap.size w wx)
    case first =>
      go_wp2
      go_meet
      case rel => exact ⟨_, rfl, heap_alloc_new _ _, (Below.heap_alloc _ _ _ (Array.getElem?_eq_some_iff.1 hB).1).trans hB, (Below.heap_alloc _ _ _ (Array.getElem?_eq_some_iff.1 hC).1).trans hC, (Below.heap_alloc _ _ _ (Array.getElem?_eq_some_iff.1 hR).1).trans hR, bl_alloc hW _⟩
    case rest =>
      clear b0 b1 b2 b3 ho hB hC hR hW
      obtain ⟨D, rfl, hD, hB, hC, hR, hW⟩ := hcut
      go_upto_region 5 with fail
      go_cut [58] (fun s wx => s = .bool (!ok8 a b c d e g h i f) ∧ wx.heap[D]? = some (.cells #[.int .i64 ((a.toNat : Int) * 256 + b.toNat), .int .i64 c.toNat, .int .i64 d.toNat] 28 (0, 0)) ∧
        wx.heap[w.heap.size]? = some (.cells #[.int .i64 0, .int .i64 0, .int .i64 0] 28 (0, 0)) ∧ Below w.heap.size w wx)
      case first =>
        have x0 : ∀ z, (ext wc z).cell? ⟨B, 0, none⟩ = some (.int .u8 a.toNat) := fun z => (ext_cell wc z B 0 (Array.getElem?_eq_some_iff.1 hB).1).trans (cells_at hB 0)
        have x1 : ∀ z, (ext wc z).cell? ⟨B, 1, none⟩ = some (.int .u8 b.toNat) := fun z => (ext_cell wc z B 1 (Array.getElem?_eq_some_iff.1 hB).1).trans (cells_at hB 1)
        have x2 : ∀ z, (ext wc z).cell? ⟨B, 2, none⟩ = some (.int .u8 c.toNat) := fun z => (ext_cell wc z B 2 (Array.getElem?_eq_some_iff.1 hB).1).trans (cells_at hB 2)
        have x3 : ∀ z, (ext wc z).cell? ⟨B, 3, none⟩ = some (.int .u8 d.toNat) := fun z => (ext_cell wc z B 3 (Array.getElem?_eq_some_iff.1 hB).1).trans (cells_at hB 3)
        have y0 : ∀ z, (ext wc z).cell? ⟨C, 0, none⟩ = some (.int .u8 e.toNat) := fun z => (ext_cell wc z C 0 (Array.getElem?_eq_some_iff.1 hC).1).trans (cells_at hC 0)
        have y1 : ∀ z, (ext wc z).cell? ⟨C, 1, none⟩ = some (.int .u8 g.toNat) := fun z => (ext_cell wc z C 1 (Array.getElem?_eq_some_iff.1 hC).1).trans (cells_at hC 1)
        have y2 : ∀ z, (ext wc z).cell? ⟨C, 2, none⟩ = some (.int .u8 h.toNat) := fun z => (ext_cell wc z C 2 (Array.getElem?_eq_some_iff.1 hC).1).trans (cells_at hC 2)
        have y3 : ∀ z, (ext wc z).cell? ⟨C, 3, none⟩ = some (.int .u8 i.toNat) := fun z => (ext_cell wc z C 3 (Array.getElem?_eq_some_iff.1 hC).1).trans (cells_at hC 3)
        have z0 : ∀ z, (ext wc z).cell? ⟨D, 0, none⟩ = some (.int .i64 ((a.toNat : Int) * 256 + b.toNat)) := fun z => (ext_cell wc z D 0 (Array.getElem?_eq_some_iff.1 hD).1).trans (cells_at hD 0)
        have z1 : ∀ z, (ext wc z).cell? ⟨D, 1, none⟩ = some (.int .i64 c.toNat) := fun z => (ext_cell wc z D 1 (Array.getElem?_eq_some_iff.1 hD).1).trans (cells_at hD 1)
        have z2 : ∀ z, (ext wc z).cell? ⟨D, 2, none⟩ = some (.int .i64 d.toNat) := fun z => (ext_cell wc z D 2 (Array.getElem?_eq_some_iff.1 hD).1).trans (cells_at hD 2)
        have hne := half_neq (nbU a f) (nbU b f) (nbU c f) (nbU d f) e g h i
        have hk8 : ok8 a b c d e g h i f = ((nbU a f == e && nbU b f == g && nbU c f == h && nbU d f == i) && vaB ((a.toNat : Int) * 256 + b.toNat) c.toNat d.toNat) := by
          unfold ok8
          congr 1
          rw [Bool.eq_iff_iff]
          simp [vaB]
          omega
        generalize hm : (nbU a f == e && nbU b f == g && nbU c f == h && nbU d f == i) = m at hne hk8
        have HK := Lib.hid hk8
        clear hm hk8
        refine wp_region_ext (by kernel_rfl) (by kernel_rfl) ?_
        cases m
        all_goals iterate 10 (refine wpQuiet_step (fun K hK => ?_); go_simp; first | (refine hK _ ?_; clear hK K) | (apply Exists.intro; refine ⟨fun _ => ?_, hK _ ?_⟩; (first | (with_reducible exact ext_call (second_w _ _ _ _ _ _ h1 h2)) | (with_reducible exact ext_call (valid_w _ _ _ _))); clear hK K))
        all_goals refine wpQuiet_nil ?_
        all_goals intro w' hw'
        all_goals obtain ⟨z, rfl⟩ := hw'
        all_goals go_wp2
        all_goals go_meet
        all_goals exact ⟨by rw [HK.out]; simp, (ext_block _ _ _ (Array.getElem?_eq_some_iff.1 hD).1).trans hD, (ext_block _ _ _ (Array.getElem?_eq_some_iff.1 hR).1).trans hR, bl_step hW (below_ext _ _)⟩
      case rest =>
        clear hD hB hC hR hW
        obtain ⟨rfl, hD, hR, hW⟩ := hcut
        have z0 : wc.cell? ⟨D, 0, none⟩ = some (.int .i64 ((a.toNat : Int) * 256 + b.toNat)) := cells_at hD 0
        have z1 : wc.cell? ⟨D, 1, none⟩ = some (.int .i64 c.toNat) := cells_at hD 1
        have z2 : wc.cell? ⟨D, 2, none⟩ = some (.int .i64 d.toNat) := cells_at hD 2
        have r0 : wc.cell? ⟨w.heap.size, 0, none⟩ = some (.int .i64 0) := cells_at hR 0
        have r1 : wc.cell? ⟨w.heap.size, 1, none⟩ = some (.int .i64 0) := cells_at hR 1
        have r2 : wc.cell? ⟨w.heap.size, 2, none⟩ = some (.int .i64 0) := cells_at hR 2
        have q0 := free_at hR 0
        have q1 := free_at hR 1
        have q2 := free_at hR 2
        clear hD hR
        cases hok : ok8 a b c d e g h i f
        all_goals go_wp2
        · refine bodyPost_ret (v := .tuple #[.agg #[.int .i64 0, .int .i64 0, .int .i64 0], .bool false]) (by simp [results, Try.results13, go_sem, r0, r1, r2]) rfl ⟨by simp [hok], by (repeat (with_reducible first | assumption | exact Below.refl _ _ | refine bl_alloc ?_ _ | apply Below.drew | refine below_drewN ?_ _ | (apply bl_step2; assumption) | (refine Below.setCell ?_ (Nat.le_refl _) _) | (refine Below.setCell ?_ (by first | omega | (simp; done) | (go_simp; done)) _)))⟩
        · refine bodyPost_ret (v := .tuple #[.agg #[.int .i64 ((a.toNat : Int) * 256 + b.toNat), .int .i64 c.toNat, .int .i64 d.toNat], .bool true]) (by simp [results, Try.results13, go_sem, r0, r1, r2]) rfl ⟨by simp [hok], by (repeat (with_reducible first | assumption | exact Below.refl _ _ | refine bl_alloc ?_ _ | apply Below.drew | refine below_drewN ?_ _ | (apply bl_step2; assumption) | (refine Below.setCell ?_ (Nat.le_refl _) _) | (refine Below.setCell ?_ (by first | omega | (simp; done) | (go_simp; done)) _)))⟩

end Go.Proofs.Ytcgfffkfmnbneaa
