/-
  The tape of the laws: pagecachemade's Cut, Tape.Next, Tape.Odd, by contracts: a number is drawn from 0 to n - 1, and only the tape's own block changes.
-/
import Derived.Test.YtpoagdffpajdjaaBase
namespace Go.Proofs.Ytpoagdffpajdjaa
open Go.RowKit
set_option linter.unusedVariables false

theorem cut_w (x n : Int) (w : World) (h1 : 1 ≤ n) (h2 : n ≤ 9223372036854775807) :
    Calls Try.prog 28 #[.int .i64 x, .int .i64 n] w fun e w' => e = .returned (.int .i64 (cutI x n)) ∧ w = w' := by
  go_enter Try.func28, Try.ntmps28
  go_wp2
  go_ret
  exact ⟨ret_int (cutI_eq x n h1 h2), rfl⟩

/-- Block b of w is a Tape over the slice s of ints, which lies in other blocks. -/
def TapeAt (w : World) (b : Nat) : Prop :=
  ∃ (a : Option Addr) (len cap k : Nat), w.heap[b]? = some (.cells #[.slice a len cap, .int .i64 (k : Int)] 32 (0, 0)) ∧ k ≤ len ∧ len ≤ maxLen ∧
    ∀ i, i < len → ∃ (c o : Nat) (x : Int), a = some ⟨c, o, none⟩ ∧ c < b ∧ w.cell? ⟨c, o + i, none⟩ = some (.int .i64 x)

theorem TapeAt.kept {w w' : World} {b : Nat} {row : Option Nat} (h : TapeAt w b) (hg : w.grownBy w' row) (hb : some b ≠ row)
    (hr : ∀ k, row = some k → ∀ (a : Option Addr) (len cap : Nat) (k' : Int), w.heap[b]? = some (.cells #[.slice a len cap, .int .i64 k'] 32 (0, 0)) → ∀ x, a = some x → x.block ≠ k) : TapeAt w' b := by
  obtain ⟨a, len, cap, k, h1, h2, h3, h4⟩ := h
  refine ⟨a, len, cap, k, ?_, h2, h3, ?_⟩
  · rw [hg.block b (Array.getElem?_eq_some_iff.1 h1).1 hb]; exact h1
  · intro i hi
    obtain ⟨c, o, x, ha, hc, hx⟩ := h4 i hi
    refine ⟨c, o, x, ha, hc, hg.cell hx ?_⟩
    intro e
    exact hr c e.symm a len cap k h1 _ ha rfl

theorem next_end (n : Int) (w : World) (b len cap : Nat) (a : Option Addr)
    (h1 : w.cell? ⟨b, 0, none⟩ = some (.slice a len cap)) (h2 : w.cell? ⟨b, 1, none⟩ = some (.int .i64 (len : Int))) (hm : len ≤ maxLen) :
    Calls Try.prog 12 #[.pointer (some ⟨b, 0, none⟩), .int .i64 n] w fun e w' => e = .returned (.int .i64 0) ∧ ∃ m, w' = w.drewN m := by
  unfold maxLen at hm
  go_enter Try.func12, Try.ntmps12
  go_wp2
  go_quiet (fail)
  go_wp2
  go_ret
  exact ⟨rfl, nq, rfl⟩

theorem next_more (n : Int) (w : World) (b len cap c o k : Nat) (x : Int) (h1n : 1 ≤ n) (h2n : n ≤ 9223372036854775807)
    (h1 : w.cell? ⟨b, 0, none⟩ = some (.slice (some ⟨c, o, none⟩) len cap)) (h2 : w.cell? ⟨b, 1, none⟩ = some (.int .i64 (k : Int))) (hf : w.frozen? ⟨b, 1, none⟩ = false) (hm : len ≤ maxLen)
    (hk : k < len) (hx : w.cell? ⟨c, o + k, none⟩ = some (.int .i64 x)) (hc : c ≠ b) :
    Calls Try.prog 12 #[.pointer (some ⟨b, 0, none⟩), .int .i64 n] w fun e w' => e = .returned (.int .i64 (cutI x n)) ∧ ∃ m, w' = (w.setCell ⟨b, 1, none⟩ (.int .i64 (k + 1))).drewN m := by
  unfold maxLen at hm
  go_enter Try.func12, Try.ntmps12
  go_wp2
  have e1 : IntKind.i64.wrap ((k : Int) + 1 - 1) = (k : Int) := by rw [show (k : Int) + 1 - 1 = k from by omega]; exact IntWalk.i64_in _ (by omega)
  have e2 : (0 : Int) ≤ (k : Int) := by omega
  have e3 : (k : Int) < (len : Int) := by omega
  have e4 : ((k : Int)).toNat = k := by omega
  go_wp2_with fail
  go_quiet (fail)
  go_wp2_with fail
  go_quiet ((go_at_call 28; exact Calls.quiet_of_eq (cut_w _ _ _ h1n h2n)))
  go_wp2
  go_ret
  exact ⟨rfl, _, drew_set _ _ _ _ _⟩

/-- Next draws a number from 0 to n - 1; only the tape's own block changes. -/
def Drew (n : Int) (b : Nat) (w : World) (e : Ending) (w' : World) : Prop := ∃ x, e = .returned (.int .i64 x) ∧ 0 ≤ x ∧ x < n ∧ w.grownBy w' (some b) ∧ TapeAt w' b

theorem next_w (n : Int) (w : World) (b : Nat) (h1n : 1 ≤ n) (h2n : n ≤ 9223372036854775807) (h : TapeAt w b) :
    Calls Try.prog 12 #[.pointer (some ⟨b, 0, none⟩), .int .i64 n] w (Drew n b w) := by
  obtain ⟨a, len, cap, k, h1, h2, h3, h4⟩ := h
  have c0 : w.cell? ⟨b, 0, none⟩ = some (.slice a len cap) := by rw [cells_at h1]; rfl
  have c1 : w.cell? ⟨b, 1, none⟩ = some (.int .i64 (k : Int)) := by rw [cells_at h1]; rfl
  by_cases hk : k < len
  · obtain ⟨c, o, x, rfl, hc, hx⟩ := h4 k hk
    refine (next_more n w b len cap c o k x h1n h2n c0 c1 (free_at h1 1) h3 hk hx (by omega)).mono ?_
    rintro e w' ⟨rfl, m, rfl⟩
    have hr := cutI_range x n h1n
    have hg : w.grownBy ((w.setCell ⟨b, 1, none⟩ (.int .i64 (k + 1))).drewN m) (some b) := grownBy_trans (grownBy_setCell w ⟨b, 1, none⟩ _) (grownBy_drewN _ _ _)
    refine ⟨_, rfl, hr.1, hr.2, hg, some ⟨c, o, none⟩, len, cap, k + 1, ?_, hk, h3, ?_⟩
    · show (w.setCell ⟨b, 1, none⟩ (.int .i64 (k + 1))).heap[b]? = _
      simp [World.setCell, Array.getElem?_modify, h1]
    · intro i hi
      obtain ⟨c', o', x', ha, hc', hx'⟩ := h4 i hi
      exact ⟨c', o', x', ha, hc', hg.cell hx' (by simp; omega)⟩
  · obtain rfl : k = len := by omega
    refine (next_end n w b k cap a c0 c1 h3).mono ?_
    rintro e w' ⟨rfl, m, rfl⟩
    exact ⟨0, rfl, by omega, by omega, grownBy_drewN _ _ _, a, k, cap, k, h1, Nat.le_refl _, h3, h4⟩

theorem TapeAt.alloc {w : World} {b : Nat} (h : TapeAt w b) (o : Obj) : TapeAt (w.alloc o) b :=
  h.kept (World.grownBy_alloc w o none) (by simp) (by simp)

def oddL : List Int := [0, 1, 2, 3, 4, 7, 8, 15, 16, 63, 64, 128, 255, 256, -1, 1000000, 1000001, 4611686018427387904, -9223372036854775808]

theorem oddL_range : ∀ x ∈ oddL, -9223372036854775808 ≤ x ∧ x ≤ 9223372036854775807 := by decide

/-- Odd answers one of its numbers; only the tape's own block changes. -/
def DrewOdd (b : Nat) (w : World) (e : Ending) (w' : World) : Prop := ∃ x, e = .returned (.int .i64 x) ∧ -9223372036854775808 ≤ x ∧ x ≤ 9223372036854775807 ∧ w.grownBy w' (some b) ∧ TapeAt w' b

theorem odd_w (w : World) (b : Nat) (h : TapeAt w b) :
    Calls Try.prog 11 #[.pointer (some ⟨b, 0, none⟩)] w (DrewOdd b w) := by
  have hb : b < w.heap.size := by obtain ⟨a, len, cap, k, h1, h2, h3, h4⟩ := h; exact (Array.getElem?_eq_some_iff.1 h1).1
  go_enter Try.func11, Try.ntmps11
  go_wp2_with fail
  refine (next_w _ _ _ (by omega) (by omega) (h.alloc _)).mono ?_
  rintro e w' ⟨x, rfl, h0, h1, hg, ht⟩
  obtain ⟨i, rfl⟩ := Int.eq_ofNat_of_zero_le h0
  have hi : i < oddL.length := by simp only [oddL, List.length_cons, List.length_nil]; omega
  have hc := hg.cell (ints_cell w oddL 3 i hi) (by simp; omega)
  have hr := oddL_range _ (List.getElem_mem hi)
  generalize oddL[i] = y at hc hr
  have hg' : w.grownBy w' (some b) := grownBy_trans (World.grownBy_alloc w _ _) hg
  clear hg hi
  go_wp2
  go_ret
  exact ⟨y, rfl, hr.1, hr.2, hg', ht⟩

theorem tape_of_row {w : World} {a : Option Addr} {len cap : Nat} {zs : List Int} (h : IsRow .i64 w a len cap zs) :
    TapeAt (w.alloc (.cells #[.slice a len cap, .int .i64 0] 32)) w.heap.size := by
  refine ⟨a, len, cap, 0, ?_, Nat.zero_le _, ?_, ?_⟩
  · show (w.heap.push _)[w.heap.size]? = _
    simp
  · rcases h with ⟨_, rfl, _⟩ | ⟨x, _, h1, h2, _⟩
    · exact Nat.zero_le _
    · exact Nat.le_trans h1 h2
  · intro i hi
    rcases h with ⟨_, rfl, _⟩ | ⟨x, rfl, h1, h2, h3, h4, h5⟩
    · omega
    · obtain ⟨c, o, sp⟩ := x
      have hc := h4 i (by omega)
      have hc0 := h4 0 (by omega)
      have hsp : sp = none := by simpa [Addr.add] using World.cell?_spot hc0
      subst hsp
      have e : (⟨c, o, none⟩ : Addr).add i = ⟨c, o + i, none⟩ := by
        unfold Addr.add
        split
        · rename_i h; subst h; rfl
        · rfl
      rw [e] at hc
      have hlt := World.block_lt_of_cell? w ⟨c, o + i, none⟩ hc
      exact ⟨c, o, zs.getD i 0, rfl, by simpa using hlt, (World.grownBy_alloc w _ none).cell hc (by simp)⟩

/-- The state of a law over one tape in block b: what was there when the law was called is as it was. -/
def Tp (W : World) (b : Nat) (w : World) : Prop := TapeAt w b ∧ Below W.heap.size W w ∧ W.heap.size ≤ b

theorem Tp.start {w : World} {a : Option Addr} {len cap : Nat} {zs : List Int} (h : IsRow .i64 w a len cap zs) :
    Tp w w.heap.size (w.alloc (.cells #[.slice a len cap, .int .i64 0] 32)) :=
  ⟨tape_of_row h, (Below.refl _ _).alloc (Nat.le_refl _) _, Nat.le_refl _⟩

theorem Tp.alloc {W w : World} {b : Nat} (h : Tp W b w) (o : Obj) : Tp W b (w.alloc o) := ⟨h.1.alloc o, h.2.1.alloc h.2.1.size o, h.2.2⟩

theorem Tp.below {W w : World} {b : Nat} (h : Tp W b w) : Below W.heap.size W w := h.2.1

theorem Tp.lt {W w : World} {b : Nat} (h : Tp W b w) : b < w.heap.size := by
  obtain ⟨⟨a, len, cap, k, h1, _⟩, _⟩ := h
  exact (Array.getElem?_eq_some_iff.1 h1).1

def DrewT (n : Int) (W : World) (b : Nat) (w : World) (e : Ending) (w' : World) : Prop := ∃ x, e = .returned (.int .i64 x) ∧ 0 ≤ x ∧ x < n ∧ Tp W b w' ∧ w.grownBy w' (some b)

theorem next_t (n : Int) (W w : World) (b : Nat) (h1n : 1 ≤ n) (h2n : n ≤ 9223372036854775807) (h : Tp W b w) :
    Calls Try.prog 12 #[.pointer (some ⟨b, 0, none⟩), .int .i64 n] w (DrewT n W b w) := by
  refine (next_w n w b h1n h2n h.1).mono ?_
  rintro e w' ⟨x, rfl, h0, h1, hg, ht⟩
  exact ⟨x, rfl, h0, h1, ⟨ht, h.2.1.grown hg h.2.1.size (by intro k hk; have h2 := h.2.2; simp at hk; omega), h.2.2⟩, hg⟩

def DrewOddT (W : World) (b : Nat) (w : World) (e : Ending) (w' : World) : Prop := ∃ x, e = .returned (.int .i64 x) ∧ -9223372036854775808 ≤ x ∧ x ≤ 9223372036854775807 ∧ Tp W b w' ∧ w.grownBy w' (some b)

theorem odd_t (W w : World) (b : Nat) (h : Tp W b w) :
    Calls Try.prog 11 #[.pointer (some ⟨b, 0, none⟩)] w (DrewOddT W b w) := by
  refine (odd_w w b h.1).mono ?_
  rintro e w' ⟨x, rfl, h0, h1, hg, ht⟩
  exact ⟨x, rfl, h0, h1, ⟨ht, h.2.1.grown hg h.2.1.size (by intro k hk; have h2 := h.2.2; simp at hk; omega), h.2.2⟩, hg⟩

theorem Tp.step {W w w' : World} {b : Nat} (h : Tp W b w) (hb : Below w.heap.size w w') : Tp W b w' := by
  have hg : w.grownBy w' none := ⟨hb.os, hb.tape, hb.output, hb.size, fun k hk _ => hb.block k hk⟩
  refine ⟨h.1.kept hg (by simp) (by simp), h.2.1.trans (hb.mono h.2.1.size), h.2.2⟩

theorem Tp.step2 {W w w' : World} {b : Nat} (hb : Below w.heap.size w w') (h : Tp W b w) : Tp W b w' := h.step hb

theorem Tp.drew {W w : World} {b : Nat} (h : Tp W b w) : Tp W b w.drew := ⟨h.1, h.2.1.drew, h.2.2⟩

theorem Tp.drewN {W w : World} {b : Nat} (h : Tp W b w) (n : Nat) : Tp W b (w.drewN n) := ⟨h.1, below_drewN h.2.1 n, h.2.2⟩

theorem TapeAt.set {w : World} {b : Nat} (h : TapeAt w b) (p : Addr) (v : Value) (hp : b < p.block) : TapeAt (w.setCell p v) b := by
  have hg := grownBy_setCell w p v
  obtain ⟨a, len, cap, k, h1, h2, h3, h4⟩ := h
  refine ⟨a, len, cap, k, ?_, h2, h3, ?_⟩
  · rw [hg.block b (Array.getElem?_eq_some_iff.1 h1).1 (by simp; omega)]; exact h1
  · intro i hi
    obtain ⟨c, o, x, ha, hc, hx⟩ := h4 i hi
    exact ⟨c, o, x, ha, hc, hg.cell hx (by simp; omega)⟩

theorem Tp.set {W w : World} {b : Nat} (h : Tp W b w) (p : Addr) (v : Value) (hp : b < p.block) : Tp W b (w.setCell p v) :=
  ⟨h.1.set p v hp, h.2.1.setCell (Nat.le_trans h.2.2 (Nat.le_of_lt hp)) v, h.2.2⟩

end Go.Proofs.Ytpoagdffpajdjaa
