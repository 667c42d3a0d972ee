/-
  Encode of both packages, by contracts.
-/
import Derived.Test.YtcgfffkfmnbneaaIno1
import Derived.Outline
namespace Go.Proofs.Ytcgfffkfmnbneaa
open Go.RowKit
set_option linter.unusedVariables false

/-- A sector. -/
def sec (a b c d e f g h : UInt8) : ByteArray := ⟨#[a, b, c, d, e, f, g, h]⟩
/-- The sector of a half, for a file. -/
def secH (a b c d : UInt8) (f : Int) : ByteArray := sec a b c d (nbU a f) (nbU b f) (nbU c f) (nbU d f)
/-- The sector of an inode. -/
def encS (q s b f : Int) : ByteArray := if vaB q s b = true ∧ 0 ≤ f ∧ f < 8 then secH (by8 (q / 256)) (by8 (q % 256)) (by8 s) (by8 b) f else ⟨#[]⟩
def encE (q s b f : Int) : Int := if vaB q s b = true then if 0 ≤ f ∧ f < 8 then 0 else 2 else 1
def RetSE (s : ByteArray) (n : Int) (w : World) (e : Ending) (w' : World) : Prop := e = .returned (.tuple #[.string s, .int .i64 n]) ∧ Below w.heap.size w w'
theorem ret_se {a b : ByteArray} {c d : Int} (h : a = b) (h' : c = d) : Ending.returned (.tuple #[.string a, .int .i64 c]) = .returned (.tuple #[.string b, .int .i64 d]) := by rw [h, h']

/-- The cells of a half. -/
def hc4 (a b c d : UInt8) : Array Value := #[.int .u8 a.toNat, .int .u8 b.toNat, .int .u8 c.toNat, .int .u8 d.toNat]
theorem conv4 (a b c d : UInt8) (B : Nat) (w : World) (t : TypeId) (h : w.heap[B]? = some (.cells (hc4 a b c d) t (0, 0))) :
    (convert 47 9 (.slice (some ⟨B, 0, none⟩) 4 4)).run Try.prog w = .ok (.string ⟨#[a, b, c, d]⟩) w := by
  refine run_convert_bytes_back (P := Try.prog) w 47 9 5 ⟨B, 0, none⟩ 4 [a, b, c, d] Try.underlying47 Try.underlying5 Try.underlying9 ?_
  intro j hj
  have e : (⟨B, 0, none⟩ : Addr).add j = ⟨B, j, none⟩ := by
    unfold Addr.add
    split
    · rename_i h; subst h; rfl
    · simp
  rw [e, cells_at h]
  rcases (by simpa using hj : j < 4) with hj4
  rcases (by omega : j = 0 ∨ j = 1 ∨ j = 2 ∨ j = 3) with rfl | rfl | rfl | rfl <;> rfl

theorem encode_w (q s0 b f : Int) (w : World) : Calls Try.prog 11 #[.agg #[.int .i64 q, .int .i64 s0, .int .i64 b], .int .i64 f] w (RetSE (encS q s0 b f) (encE q s0 b f) w) := by
  by_cases hva : vaB q s0 b = true
  · by_cases hf : 0 ≤ f ∧ f < 8
    · have hd : decide (0 ≤ f ∧ f < 8) = true := by simpa using hf
      go_enter Try.func11, Try.ntmps11
      go_upto_region 6 with (first
          | (go_at_call 24; (with_reducible refine Calls.mono (valid_w _ _ _ _) ?_); rintro e w1 ⟨rfl, hb⟩; obtain ⟨hc, hfz, s1, s2, s3, s4, s5, s6, s7⟩ := kept hb)
          | (go_at_call 25; (with_reducible refine Calls.mono (known_w _ _) ?_); rintro e w2 ⟨rfl, rfl⟩)
          | (go_at_call 26; (with_reducible refine Calls.mono (first_w _ _ _ _ hva) ?_); rintro e w3 ⟨rfl, hb3⟩; unfold hv; obtain ⟨hc3, hfz3, s31, s32, s33, s34, s35, s36, s37⟩ := kept hb3))
      go_cut [6, 7] (fun s t wx => ∃ B C, s = .pointer (some ⟨B, 0, none⟩) ∧ t = .pointer (some ⟨C, 0, none⟩) ∧ wx.heap[B]? = some (.cells (hc4 (by8 (q / 256)) (by8 (q % 256)) (by8 s0) (by8 b)) 54 (0, 0)) ∧ wx.heap[C]? = some (.cells (hc4 (nbU (by8 (q / 256)) f) (nbU (by8 (q % 256)) f) (nbU (by8 s0) f) (nbU (by8 b) f)) 54 (0, 0)) ∧ Below w.heap.size w wx)
      case first =>
        go_wp2_with (go_at_call 27; (with_reducible refine Calls.mono (second_w _ _ _ _ _ _ hf.1 hf.2) ?_); rintro e w4 ⟨rfl, hb4⟩; unfold hv; obtain ⟨hc4, hfz4, s41, s42, s43, s44, s45, s46, s47⟩ := kept hb4)
        go_meet
        case rel => exact ⟨_, _, rfl, rfl, (Below.heap_alloc _ _ _ (s41 _ (by simp))).trans ((hb4.block _ (by simp)).trans (heap_alloc_new _ _)), heap_alloc_new _ _, bl_alloc (bl_step (bl_alloc (bl_step (bl_step ((Below.refl _ _).alloc (Nat.le_refl _) _) hb) hb3) _) hb4) _⟩
      case rest =>
        obtain ⟨B, C, rfl, rfl, hB, hC, hW⟩ := hcut
        have k1 := fun n => conv4 _ _ _ _ B (World.drewN _ n) _ hB
        have k2 := fun n => conv4 _ _ _ _ C (World.drewN _ n) _ hC
        have HS : Hid (encS q s0 b f = secH (by8 (q / 256)) (by8 (q % 256)) (by8 s0) (by8 b) f ∧ encE q s0 b f = 0) := by
          show _ ∧ _
          simp [encS, encE, hva, hf]
        clear hB hC
        go_wp2_with fail
        go_quiet (fail)
        go_wp2
        go_ret2
        exact ⟨ret_se HS.out.1.symm HS.out.2.symm, below_drewN hW _⟩
    · have hd : decide (0 ≤ f ∧ f < 8) = false := by simpa using hf
      have HS : Hid (encS q s0 b f = ⟨#[]⟩ ∧ encE q s0 b f = 2) := by
        show _ ∧ _
        simp [encS, encE, hva, hf]
      clear hf
      go_enter Try.func11, Try.ntmps11
      go_wp2_with (first
        | (go_at_call 24; (with_reducible refine Calls.mono (valid_w _ _ _ _) ?_); rintro e w1 ⟨rfl, hb1⟩)
        | (go_at_call 25; (with_reducible refine Calls.mono (known_w _ _) ?_); rintro e w2 ⟨rfl, rfl⟩))
      go_ret2
      exact ⟨ret_se HS.out.1.symm HS.out.2.symm, bl_step ((Below.refl _ _).alloc (Nat.le_refl _) _) hb1⟩
  · simp only [Bool.not_eq_true] at hva
    have HS : Hid (encS q s0 b f = ⟨#[]⟩ ∧ encE q s0 b f = 1) := by
      show _ ∧ _
      simp [encS, encE, hva]
    go_enter Try.func11, Try.ntmps11
    go_wp2_with (go_at_call 24; (with_reducible refine Calls.mono (valid_w _ _ _ _) ?_); rintro e w1 ⟨rfl, hb1⟩)
    go_ret2
    exact ⟨ret_se HS.out.1.symm HS.out.2.symm, bl_step ((Below.refl _ _).alloc (Nat.le_refl _) _) hb1⟩

end Go.Proofs.Ytcgfffkfmnbneaa
