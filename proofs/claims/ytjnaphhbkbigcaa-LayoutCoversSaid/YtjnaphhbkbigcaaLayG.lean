/-
  The law LayoutCovers: the walk.
-/
import Derived.Test.YtjnaphhbkbigcaaLayF
namespace Go.Proofs.Ytjnaphhbkbigcaa
open Go.RowKit
set_option linter.unusedVariables false
set_option linter.unusedSimpArgs false

set_option maxRecDepth 100000 in
set_option maxHeartbeats 1000000 in
/-- Numbers out of a tape, in a block of the call's own. -/
theorem ints_o (W w : World) (b : Nat) (most lo n : Int) (hT : Tp W b w) (hm : 0 ≤ most ∧ most ≤ 100) (hn : 1 ≤ n ∧ n ≤ 1000) (hlo : -1000 ≤ lo ∧ lo ≤ 1000) :
    Calls Try.prog 18 #[.pointer (some ⟨b, 0, none⟩), .int .i64 most, .int .i64 lo, .int .i64 n] w fun e w' => ∃ v zs, e = .returned v ∧ OwnZ w' w.heap.size v zs ∧ (zs.length : Int) ≤ most ∧ (∀ z ∈ zs, lo ≤ z ∧ z < lo + n) ∧ Tp W b w' := by
  obtain ⟨m0, m1⟩ := hm
  obtain ⟨n0, n1⟩ := hn
  obtain ⟨l0, l1⟩ := hlo
  have HT := Lib.hid hT
  have lb := hT.lt
  obtain ⟨i0, hi, hz0, hz1, hz2⟩ := info_parts int_info
  clear hT
  go_enter Try.func18, Try.ntmps18
  go_wp2_with (go_at_call 7; refine (next_t _ W _ _ (by omega) (by omega) HT.out).mono ?_; rintro e w1 ⟨x, rfl, h0, h1, hT, hg⟩; have HT2 := Lib.hid hT; have hsz := hg.size; clear HT hT hg; have HT := HT2; clear HT2)
  go_loopw [9, 10] (fun s9 s10 wx => ∃ (k : Nat) (zs : List Int), s10 = .int .i64 k ∧ (k : Int) + zs.length ≤ most ∧ (∀ z ∈ zs, lo ≤ z ∧ z < lo + n) ∧ wx.ownsRow w.heap.size 3 1 s9 zs.length (zs.map (Value.int .i64)) ∧ w.heap.size ≤ wx.heap.size ∧ Tp W b wx) (fun _ s10 _ => (intOf s10).toNat)
  case atStart => exact ⟨x.toNat, [], by rw [Int.toNat_of_nonneg h0], by simp; omega, fun z hz => by simp at hz, World.ownsRow_nil _ _ _ _, hsz, HT.out⟩
  case round =>
    clear HT
    obtain ⟨k, zs, rfl, hk, hz, hown, hs, hT⟩ := hrel
    have HT := Lib.hid hT
    have Hown := Lib.hid hown
    have Hz := Lib.hid hz
    clear hT hown hz
    by_cases hlt : 0 < k
    · have k0 : (0 : Int) < (k : Int) := by omega
      go_wp2_with (first
        | (go_at_call 7; refine (next_t _ W _ _ (by omega) (by omega) HT.out).mono ?_; rintro e w1 ⟨y, rfl, y0, y1, hT, hg⟩; have HT2 := Lib.hid hT; have hsz2 := hg.size; have Hown2 := Lib.hid (own_grown Hown.out hg lb); clear HT hT hg Hown; have HT := HT2; clear HT2; have w2 := w64 (x := lo + y) (by omega))
        | (at_builtin; go_loud (refine wpList_append_lies _ rfl (.tmp 19) (.tmp 25) 22 rfl w.heap.size 3 i0 _ 1 8 Try.underlying22 hi hz0 hz1 hz2 rfl (by omega) _ zs.length (zs.map (Value.int .i64)) rfl (Hown2.out.alloc _) ⟨_, 0, none⟩ 1 1 [.int .i64 (lo + y)] rfl rfl (World.news_of_block (heap_at_new _ _ _ (by first | rfl | simp))) (by simp [Value.oneCell']) (by omega) (by unfold maxLen; omega) (by omega) (by simp; omega) _ rfl ?_); intro gg cap4 w4 hown4 hg4 hat4 hlt4))
      go_roundw
      case rel =>
        have hzs : zs.length + 1 = (zs ++ [lo + y]).length := by simp
        refine ⟨k - 1, zs ++ [lo + y], by go_num, by rw [← hzs]; omega, fun z hz => ?_, by simpa using hown4, ?_, (HT.out.alloc _).grown hg4 (fun q hq => by have := (Hown2.out.lt q hq).1; omega)⟩
        · rcases List.mem_append.1 hz with hz | hz
          · exact Hz.out z hz
          · simp only [List.mem_singleton] at hz
            omega
        · have := hg4.size
          simp at this
          omega
      case measure => simp [intOf]; omega
    · obtain rfl : k = 0 := by omega
      go_wp2
      go_ret
      exact ⟨_, zs, rfl, Hown.out, by omega, Hz.out, HT.out⟩

/-- Spans lie in no tape's block. -/
theorem SpA.tape {w w' : World} {v : Value} {l : List Sp} {b : Nat} (h : SpA w v l) (ht : TapeAt w b) (hg : w.grownBy w' (some b)) : SpA w' v l := by
  obtain ⟨A, cap, e, hm, h⟩ := h
  refine ⟨A, cap, e, hm, ?_⟩
  rcases h with h | ⟨g, h1, h2, h3⟩
  · exact .inl h
  · refine .inr ⟨g, h1, Nat.lt_of_lt_of_le h2 hg.size, fun i s c hi => ?_⟩
    have hne : g ≠ b := by
      rintro rfl
      have hl : l ≠ [] := by rintro rfl; simp at hi
      obtain ⟨x, l', rfl⟩ := List.exists_cons_of_ne_nil hl
      obtain ⟨c0, _⟩ := h3 0 x.1 x.2 rfl
      obtain ⟨a, len, cap, k, hb, _⟩ := ht
      have := cells_at hb 0
      rw [show (0 : Nat) * 2 = 0 from rfl, this] at c0
      simp at c0
    obtain ⟨c0, c1⟩ := h3 i s c hi
    exact ⟨hg.cell c0 (by simpa using hne), hg.cell c1 (by simpa using hne)⟩
theorem MB.tape {w w' : World} {g b : Nat} {K : List Int} (h : MB w g K) (ht : TapeAt w b) (hg : w.grownBy w' (some b)) : MB w' g K := h.grown hg (by
  rintro e
  injection e with e
  subst e
  obtain ⟨es, clock, h1, _⟩ := h
  obtain ⟨a, len, cap, k, h2, _⟩ := ht
  rw [h1] at h2
  injection h2 with h2
  cases h2)
/-- Two keys more. -/
def addN (K : List Int) (x : Int) : Nat → List Int
  | 0 => K
  | k + 1 => addK (addN K x k) (x + k)
theorem keysP_two {s : Int} {pages : List Int} {i : Nat} {p : Int} (h : pages[i]? = some p) : keysP s (pages.take (i + 1)) = addN (keysP s (pages.take i)) (pgP s p) 2 := by
  rw [keysP_take h]
  simp [addN]
theorem asc_at {U : List Int} (h : U.Pairwise (· < ·)) {m : Nat} {x y : Int} (hx : U[m]? = some x) (hy : U[m + 1]? = some y) : x < y := by
  obtain ⟨h1, e1⟩ := List.getElem?_eq_some_iff.1 hx
  obtain ⟨h2, e2⟩ := List.getElem?_eq_some_iff.1 hy
  have := List.pairwise_iff_getElem.1 h m (m + 1) h1 h2 (by omega)
  omega
theorem take_more {U : List Int} {m : Nat} {x : Int} (h : U[m]? = some x) : U.take (m + 1) = U.take m ++ [x] := by
  rw [List.take_add_one, h]
  rfl
theorem two_len (s : Int) : ∀ l : List Int, (l.flatMap (pgTwo s)).length = 2 * l.length
  | [] => rfl
  | x :: l => by
    have := two_len s l
    simp only [List.flatMap_cons, List.length_append, List.length_cons, this, pgTwo, List.length_nil]
    omega

theorem own_app {w : World} {base m : Nat} {v : Value} {L : List Int} {x : Int} (hL : L.length = m) (h : w.ownsRow base 3 1 v (m + 1) (L.map (Value.int .i64) ++ [.int .i64 x])) : OwnZ w base v (L ++ [x]) := by
  unfold OwnZ
  rw [List.length_append, hL, List.map_append]
  exact h

end Go.Proofs.Ytjnaphhbkbigcaa
