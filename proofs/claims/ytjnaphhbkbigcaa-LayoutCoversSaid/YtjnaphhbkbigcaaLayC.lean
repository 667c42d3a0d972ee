/-
  The law LayoutRuns: the walk.
-/
import Derived.Test.YtjnaphhbkbigcaaLayB
namespace Go.Proofs.Ytjnaphhbkbigcaa
open Go.RowKit
set_option linter.unusedVariables false
set_option linter.unusedSimpArgs false

/-- A row that a call owns, while its tape turns. -/
theorem own_grown {w w' : World} {B sz n b : Nat} {t : TypeId} {v : Value} {xs : List Value} (h : w.ownsRow B t sz v n xs) (hg : w.grownBy w' (some b)) (hb : b < B) : w'.ownsRow B t sz v n xs :=
  h.kept hg (by
    cases hv : v.ownBlock with
    | none => exact .inl rfl
    | some k =>
      right
      intro e
      injection e with e
      have := (h.lt k hv).1
      omega)
/-- A tape is as it was where only blocks above it change. -/
theorem Tp.grown {W w w' : World} {b : Nat} {row : Option Nat} (h : Tp W b w) (hg : w.grownBy w' row) (hr : ∀ k, row = some k → b < k) : Tp W b w' := by
  obtain ⟨⟨a, len, cap, k, h1, h2, h3, h4⟩, hB, hb⟩ := h
  refine ⟨⟨a, len, cap, k, ?_, h2, h3, ?_⟩, hB.grown hg hB.size (fun q hq => by have := hr q hq; omega), hb⟩
  · rw [hg.block b (Array.getElem?_eq_some_iff.1 h1).1 (fun e => by have := hr b e.symm; omega)]; exact h1
  · intro i hi
    obtain ⟨c, o, x, ha, hc, hx⟩ := h4 i hi
    refine ⟨c, o, x, ha, hc, hg.cell hx ?_⟩
    intro e
    have := hr c e.symm
    omega
set_option maxRecDepth 100000 in
set_option maxHeartbeats 1000000 in
/-- Numbers out of a tape. -/
theorem ints_w (W w : World) (b : Nat) (most lo n : Int) (hT : Tp W b w) (hm : 0 ≤ most ∧ most ≤ 100) (hn : 1 ≤ n ∧ n ≤ 1000) (hlo : -1000 ≤ lo ∧ lo ≤ 1000) :
    Calls Try.prog 18 #[.pointer (some ⟨b, 0, none⟩), .int .i64 most, .int .i64 lo, .int .i64 n] w fun e w' => ∃ v zs, e = .returned v ∧ ZAs w' v zs ∧ (zs.length : Int) ≤ most ∧ (∀ z ∈ zs, lo ≤ z ∧ z < lo + n) ∧ Tp W b w' := by
  obtain ⟨m0, m1⟩ := hm
  obtain ⟨n0, n1⟩ := hn
  obtain ⟨l0, l1⟩ := hlo
  have HT := Lib.hid hT
  have lb := hT.lt
  obtain ⟨i0, hi, hz0, hz1, hz2⟩ := info_parts int_info
  clear hT
  go_enter Try.func18, Try.ntmps18
  go_wp2_with (go_at_call 7; refine (next_t _ W _ _ (by omega) (by omega) HT.out).mono ?_; rintro e w1 ⟨x, rfl, h0, h1, hT, hg⟩; have HT2 := Lib.hid hT; have hsz := hg.size; clear HT hT hg; have HT := HT2; clear HT2)
  go_loopw [9, 10] (fun s9 s10 wx => ∃ (k : Nat) (zs : List Int), s10 = .int .i64 k ∧ (k : Int) + zs.length ≤ most ∧ (∀ z ∈ zs, lo ≤ z ∧ z < lo + n) ∧ wx.ownsRow w.heap.size 3 1 s9 zs.length (zs.map (Value.int .i64)) ∧ w.heap.size ≤ wx.heap.size ∧ Tp W b wx) (fun _ s10 _ => (intOf s10).toNat)
  case atStart => exact ⟨x.toNat, [], by rw [Int.toNat_of_nonneg h0], by simp; omega, fun z hz => by simp at hz, World.ownsRow_nil _ _ _ _, hsz, HT.out⟩
  case round =>
    clear HT
    obtain ⟨k, zs, rfl, hk, hz, hown, hs, hT⟩ := hrel
    have HT := Lib.hid hT
    have Hown := Lib.hid hown
    have Hz := Lib.hid hz
    clear hT hown hz
    by_cases hlt : 0 < k
    · have k0 : (0 : Int) < (k : Int) := by omega
      go_wp2_with (first
        | (go_at_call 7; refine (next_t _ W _ _ (by omega) (by omega) HT.out).mono ?_; rintro e w1 ⟨y, rfl, y0, y1, hT, hg⟩; have HT2 := Lib.hid hT; have hsz2 := hg.size; have Hown2 := Lib.hid (own_grown Hown.out hg lb); clear HT hT hg Hown; have HT := HT2; clear HT2; have w2 := w64 (x := lo + y) (by omega))
        | (at_builtin; go_loud (refine wpList_append_lies _ rfl (.tmp 19) (.tmp 25) 22 rfl w.heap.size 3 i0 _ 1 8 Try.underlying22 hi hz0 hz1 hz2 rfl (by omega) _ zs.length (zs.map (Value.int .i64)) rfl (Hown2.out.alloc _) ⟨_, 0, none⟩ 1 1 [.int .i64 (lo + y)] rfl rfl (World.news_of_block (heap_at_new _ _ _ (by first | rfl | simp))) (by simp [Value.oneCell']) (by omega) (by unfold maxLen; omega) (by omega) (by simp; omega) _ rfl ?_); intro gg cap4 w4 hown4 hg4 hat4 hlt4))
      go_roundw
      case rel =>
        have hzs : zs.length + 1 = (zs ++ [lo + y]).length := by simp
        refine ⟨k - 1, zs ++ [lo + y], by go_num, by rw [← hzs]; omega, fun z hz => ?_, by simpa using hown4, ?_, (HT.out.alloc _).grown hg4 (fun q hq => by have := (Hown2.out.lt q hq).1; omega)⟩
        · rcases List.mem_append.1 hz with hz | hz
          · exact Hz.out z hz
          · simp only [List.mem_singleton] at hz
            omega
        · have := hg4.size
          simp at this
          omega
      case measure => simp [intOf]; omega
    · obtain rfl : k = 0 := by omega
      go_wp2
      go_ret
      exact ⟨_, zs, rfl, ZAs.of_own Hown.out (by unfold maxLen; omega), by omega, Hz.out, HT.out⟩

end Go.Proofs.Ytjnaphhbkbigcaa
