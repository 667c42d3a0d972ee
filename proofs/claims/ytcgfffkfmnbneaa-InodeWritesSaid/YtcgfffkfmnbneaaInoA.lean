/-
  The law's sanity check, by contract.
-/
import Derived.Test.YtcgfffkfmnbneaaIno9
namespace Go.Proofs.Ytcgfffkfmnbneaa
open Go.RowKit
set_option linter.unusedVariables false
set_option linter.unusedSimpArgs false

abbrev LIT : ByteArray := ⟨#[0, 1, 16, 1, 255, 254, 239, 254]⟩
theorem aw_e (w : World) : Calls Try.prog 11 #[.agg #[.int .i64 1, .int .i64 16, .int .i64 1], .int .i64 0] w (RetSE LIT 0 w) := by
  have h := encode_w 1 16 1 0 w
  rwa [show encS 1 16 1 0 = LIT from by kernel_rfl, show encE 1 16 1 0 = 0 from by kernel_rfl] at h
theorem aw_d (w : World) : Calls Try.prog 13 #[.string LIT, .int .i64 0] w (RetD true 1 16 1 w) := by
  have h := decode_w LIT 0 w (by unfold maxLen; decide)
  unfold RetX at h
  rwa [show decOk LIT 0 = true from by kernel_rfl, show decQ LIT 0 = 1 from by kernel_rfl, show decS LIT 0 = 16 from by kernel_rfl, show decB LIT 0 = 1 from by kernel_rfl] at h
theorem aw_n (w : World) : Calls Try.prog 13 #[.string LIT, .int .i64 1] w (RetD false 0 0 0 w) := by
  have h := decode_w LIT 1 w (by unfold maxLen; decide)
  unfold RetX at h
  rwa [show decOk LIT 1 = false from by kernel_rfl, show decQ LIT 1 = 0 from by kernel_rfl, show decS LIT 1 = 0 from by kernel_rfl, show decB LIT 1 = 0 from by kernel_rfl] at h
def RetC0 (w : World) (e : Ending) (w' : World) : Prop := e = .returned (.tuple #[.agg #[.int .i64 1, .int .i64 16, .int .i64 1], .int .i64 1, .bool true]) ∧ Below w.heap.size w w'
theorem aw_c (w : World) : Calls Try.prog 15 #[.string ⟨#[]⟩, .string LIT, .int .i64 0] w (RetC0 w) := by
  have h := choose_w ⟨#[]⟩ LIT 0 w (by unfold maxLen; decide) (by unfold maxLen; decide)
  unfold RetCh at h
  rw [show decOk LIT 0 = true from by kernel_rfl, show decQ LIT 0 = 1 from by kernel_rfl, show decS LIT 0 = 16 from by kernel_rfl, show decB LIT 0 = 1 from by kernel_rfl, show decOk ⟨#[]⟩ 0 = false from by kernel_rfl] at h
  exact h
theorem aw_x (w : World) : Calls Try.prog 17 #[.agg #[.int .i64 1, .int .i64 16, .int .i64 1]] w (RetIE 2 16 1 0 w) := by
  have h := inext_w 1 16 1 w
  unfold RetNx at h
  rw [show nxE 1 16 1 = 0 from by kernel_rfl] at h
  exact h
theorem aw_t (w : World) : Calls Try.prog 20 #[.string LIT, .string LIT, .int .i64 1] w (RetSE LIT 0 w) := by
  have h := torn_w LIT LIT 1 w (by unfold maxLen; decide) (by unfold maxLen; decide)
  rwa [show toS LIT LIT 1 = LIT from by kernel_rfl, show toE LIT LIT 1 = 0 from by kernel_rfl] at h

set_option maxRecDepth 100000 in
set_option maxHeartbeats 1000000 in
theorem awake_w (w : World) : Calls Try.prog 22 #[] w (RetB true w) := by
  go_enter Try.func22, Try.ntmps22
  go_upto_region 2 with (go_at_call 11; (with_reducible refine Calls.mono (aw_e _) ?_); rintro e w1 ⟨rfl, hb1⟩)
  go_cut [3, 4] (fun s3 s4 wx => ∃ A, s3 = .pointer (some ⟨A, 0, none⟩) ∧ s4 = .bool true ∧ IAt wx A 1 16 1 ∧ Below w.heap.size w wx)
  case first =>
    go_wp2_with (go_at_call 13; (with_reducible refine Calls.mono (aw_d _) ?_); rintro e w2 ⟨rfl, hb2⟩)
    go_meet
    case rel => exact ⟨_, rfl, rfl, IAt.new _ _ _ _ _ rfl, bl_alloc (bl_step hb1 hb2) _⟩
  case rest =>
    obtain ⟨A, rfl, rfl, iA, hW⟩ := hcut
    go_upto_region 3 with fail
    go_cut [6] (fun s6 wx => s6 = .bool false ∧ IAt wx A 1 16 1 ∧ Below w.heap.size w wx)
    case first =>
      have HA := Lib.hid iA
      clear iA
      go_wp2_with (go_at_call 13; (with_reducible refine Calls.mono (aw_n _) ?_); rintro e w2 ⟨rfl, hb2⟩)
      go_meet
      case rel => exact ⟨rfl, (HA.out.step hb2).alloc _, bl_alloc (bl_step hW hb2) _⟩
    case rest =>
      clear iA hW
      obtain ⟨rfl, iA, hW⟩ := hcut
      go_upto_region 4 with fail
      go_cut [7, 8, 9] (fun s7 s8 s9 wx => ∃ C, s7 = .pointer (some ⟨C, 0, none⟩) ∧ s8 = .int .i64 1 ∧ s9 = .bool true ∧ IAt wx C 1 16 1 ∧ IAt wx A 1 16 1 ∧ Below w.heap.size w wx)
      case first =>
        have HA := Lib.hid iA
        clear iA
        go_wp2_with (go_at_call 15; (with_reducible refine Calls.mono (aw_c _) ?_); rintro e w2 ⟨rfl, hb2⟩)
        go_meet
        case rel => exact ⟨_, rfl, rfl, rfl, IAt.new _ _ _ _ _ rfl, (HA.out.step hb2).alloc _, bl_alloc (bl_step hW hb2) _⟩
      case rest =>
        clear iA hW
        obtain ⟨C, rfl, rfl, rfl, iC, iA, hW⟩ := hcut
        go_upto_region 5 with fail
        go_cut [10, 11] (fun s10 s11 wx => ∃ D, s10 = .pointer (some ⟨D, 0, none⟩) ∧ s11 = .int .i64 0 ∧ IAt wx D 2 16 1 ∧ IAt wx C 1 16 1 ∧ IAt wx A 1 16 1 ∧ Below w.heap.size w wx)
        case first =>
          obtain ⟨m0, m1, m2⟩ := iA.cell
          have HA := Lib.hid iA
          have HC := Lib.hid iC
          clear iA iC
          go_wp2_with (go_at_call 17; (with_reducible refine Calls.mono (aw_x _) ?_); rintro e w2 ⟨rfl, hb2⟩)
          go_meet
          case rel => exact ⟨_, rfl, rfl, IAt.new _ _ _ _ _ rfl, (HC.out.step hb2).alloc _, (HA.out.step hb2).alloc _, bl_alloc (bl_step hW hb2) _⟩
        case rest =>
          clear iC iA hW
          obtain ⟨D, rfl, rfl, iD, iC, iA, hW⟩ := hcut
          have HD := Lib.hid iD
          have HC := Lib.hid iC
          have HA := Lib.hid iA
          clear iD iC iA
          go_wp2_with (go_at_call 20; (with_reducible refine Calls.mono (aw_t _) ?_); rintro e w2 ⟨rfl, hb2⟩; obtain ⟨m0, m1, m2⟩ := (HA.out.step hb2).cell; obtain ⟨n0, n1, n2⟩ := (HC.out.step hb2).cell; obtain ⟨k0, k1, k2⟩ := (HD.out.step hb2).cell)
          go_ret
          exact ⟨rfl, bl_step hW hb2⟩

end Go.Proofs.Ytcgfffkfmnbneaa
