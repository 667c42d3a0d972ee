/-
  The functions of packages stat and pagecacheref33 on numbers alone, by contracts: both packages compute the same.
-/
import Derived.Test.YtehhdeafimomfaaBase
import Derived.Test.YtehhdeafimomfaaShelf
import Derived.Lib.BitFns
namespace Go.Proofs.Ytehhdeafimomfaa
open Go.RowKit
set_option linter.unusedVariables false

theorem round_w (x n : Int) (w : World) (h1 : 1 ≤ n) (h2 : n ≤ 9223372036854775807) :
    Calls Try.prog 8 #[.int .i64 x, .int .i64 n] w fun e w' => e = .returned (.int .i64 (cutI x n)) ∧ w = w' := by
  go_enter Try.func8, Try.ntmps8
  go_wp2
  go_ret
  exact ⟨ret_int (cutI_eq x n h1 h2), rfl⟩

/-- The bucket of a wait. -/
def bkN (n : Nat) : Nat := Lib.bitLenAux 15 n
def bkI (x : Int) : Int := bkN x.toNat
theorem aux_min : ∀ (f g x : Nat), f ≤ g → Lib.bitLenAux f x = min (Lib.bitLenAux g x) f
  | 0, g, x, _ => by simp [Lib.bitLenAux]
  | f + 1, 0, x, h => by omega
  | f + 1, g + 1, x, h => by
    have ih := aux_min f g (x / 2) (by omega)
    simp only [Lib.bitLenAux]
    split
    · omega
    · rw [ih]; omega
theorem aux_le : ∀ (f x : Nat), Lib.bitLenAux f x ≤ f
  | 0, x => by simp [Lib.bitLenAux]
  | f + 1, x => by
    have ih := aux_le f (x / 2)
    simp only [Lib.bitLenAux]
    split <;> omega
theorem bkI_range (x : Int) : 0 ≤ bkI x ∧ bkI x ≤ 15 := by
  have := aux_le 15 x.toNat
  unfold bkI bkN
  omega
theorem bkI_neg {x : Int} (h : x ≤ 0) : bkI x = 0 := by
  have e : x.toNat = 0 := by omega
  unfold bkI bkN
  rw [e]
  rfl

theorem u64_of (x : Int) (h : 0 ≤ x) (h' : x ≤ 9223372036854775807) : IntKind.u64.wrap x = x := IntWalk.u64_in x ⟨h, by omega⟩
theorem bucket_w (x : Int) (w : World) (h1 : -9223372036854775808 ≤ x) (h2 : x ≤ 9223372036854775807) :
    Calls Try.prog 14 #[.int .i64 x] w fun e w' => e = .returned (.int .i64 (bkI x)) ∧ w = w' := by
  have hm := aux_min 15 64 x.toNat (by omega)
  have hB : Hid (bkI x = min ((Lib.bitLen x.toNat : Nat) : Int) 15) := by
    show bkI x = _
    unfold bkI bkN Lib.bitLen
    rw [hm]
    omega
  clear hm
  by_cases hx : 0 ≤ x
  · have hb : Lib.bitLen x.toNat ≤ 64 := aux_le 64 _
    go_enter Try.func14, Try.ntmps14
    go_wp2_with (go_at_call 20; refine (Try.bits_Len _ _ (by omega) (by omega)).mono ?_; rintro e w' ⟨rfl, rfl⟩)
    all_goals go_ret
    all_goals exact ⟨ret_int (by rw [hB.out, Int.max_eq_left (by omega)]), rfl⟩
  · have hx' : x < 0 := by omega
    have e : x.toNat = 0 := by omega
    have hz : Hid (bkI x = 0) := bkI_neg (by omega)
    have b0 : Lib.bitLen 0 = 0 := rfl
    have hmx : max x 0 = 0 := by omega
    go_enter Try.func14, Try.ntmps14
    go_wp2_with (go_at_call 20; refine (Try.bits_Len _ _ (by omega) (by omega)).mono ?_; rintro e w' ⟨rfl, rfl⟩)
    all_goals go_ret
    all_goals exact ⟨ret_int (by rw [hz.out]; decide), rfl⟩

theorem rbucket_w (x : Int) (w : World) (h1 : -9223372036854775808 ≤ x) (h2 : x ≤ 9223372036854775807) :
    Calls Try.prog 15 #[.int .i64 x] w fun e w' => e = .returned (.int .i64 (bkI x)) ∧ w = w' := by
  go_enter Try.func15, Try.ntmps15
  go_wp2
  go_loopw [0, 3] (fun a n wr => ∃ (k : Nat) (v : Int), k ≤ 15 ∧ a = .int .i64 v ∧ n = .int .i64 k ∧ v ≤ 9223372036854775807 ∧ Hid (bkN x.toNat = k + Lib.bitLenAux (15 - k) v.toNat) ∧ w = wr) (fun _ n _ => 15 - (intOf n).toNat)
  case atStart => exact ⟨0, x, by omega, rfl, rfl, h2, by show bkN x.toNat = 0 + Lib.bitLenAux 15 _; rw [Nat.zero_add]; rfl, rfl⟩
  case round =>
    obtain ⟨k, v, hk, rfl, rfl, hv, H, rfl⟩ := hrel
    by_cases h0 : 0 < v
    · by_cases hl : k < 15
      · go_wp2
        go_roundw
        case rel =>
          refine ⟨k + 1, v / 2, by omega, rfl, by go_num, by omega, ?_, trivial⟩
          show bkN x.toNat = _
          rw [H.out, show 15 - k = (15 - (k + 1)) + 1 from by omega, Lib.bitLenAux, if_neg (by omega), show (v / 2).toNat = v.toNat / 2 from by omega]
          omega
        case measure => simp [intOf]; omega
      · obtain rfl : k = 15 := by omega
        go_wp2
        go_ret
        exact ⟨ret_int (by unfold bkI; rw [H.out]; simp [Lib.bitLenAux]), rfl⟩
    · have hv0 : v.toNat = 0 := by omega
      have H0 : Hid (bkN x.toNat = k) := by
        show bkN x.toNat = k
        rw [H.out, hv0]
        cases (15 - k) <;> simp [Lib.bitLenAux]
      clear H hv0
      go_wp2
      go_ret
      exact ⟨ret_int (by unfold bkI; rw [H0.out]), rfl⟩

def clI (n : Int) : Int := min (max n 0) 1048576
theorem clI_range (n : Int) : 0 ≤ clI n ∧ clI n ≤ 1048576 := by unfold clI; omega
theorem clamp_w (n : Int) (w : World) : Calls Try.prog 18 #[.int .i64 n] w fun e w' => e = .returned (.int .i64 (clI n)) ∧ w = w' := by
  go_enter Try.func18, Try.ntmps18
  go_wp2
  all_goals go_ret
  all_goals exact ⟨ret_int (by unfold clI; omega), rfl⟩
theorem rcut_w (n : Int) (w : World) : Calls Try.prog 19 #[.int .i64 n] w fun e w' => e = .returned (.int .i64 (clI n)) ∧ w = w' := by
  go_enter Try.func19, Try.ntmps19
  go_wp2
  all_goals go_ret
  all_goals exact ⟨ret_int (by unfold clI; omega), rfl⟩

def shB (n x : Int) : Bool := decide (0 ≤ n ∧ n ≤ 1073741824 ∧ 1 ≤ x ∧ x ≤ 8)
theorem share_w (n x : Int) (w : World) : Calls Try.prog 21 #[.int .i64 n, .int .i64 x] w fun e w' => e = .returned (.bool (shB n x)) ∧ w = w' := by
  go_enter Try.func21, Try.ntmps21
  go_wp2
  all_goals go_ret
  all_goals exact ⟨ret_bool (by rw [Bool.eq_iff_iff]; simp [shB]; try omega), rfl⟩

def lagD (a x b y : Int) : Int := a * 840 / x - b * 840 / y
def lagI (a x b y : Int) : Int := if shB a x = true ∧ shB b y = true then max (lagD a x b y) (-(lagD a x b y)) else 0
theorem sh_t {n x : Int} (h : shB n x = true) : 0 ≤ n ∧ n ≤ 1073741824 ∧ 1 ≤ x ∧ x ≤ 8 := by simpa [shB] using h

theorem lag_w (a x b y : Int) (w : World) : Calls Try.prog 16 #[.int .i64 a, .int .i64 x, .int .i64 b, .int .i64 y] w (RetI (lagI a x b y) w) := by
  by_cases h1 : shB a x = true
  · by_cases h2 : shB b y = true
    · obtain ⟨a1, a2, x1, x2⟩ := sh_t h1
      obtain ⟨b1, b2, y1, y2⟩ := sh_t h2
      have q1 : 0 ≤ a * 840 / x := Int.ediv_nonneg (by omega) (by omega)
      have q2 : a * 840 / x ≤ a * 840 := Int.ediv_le_self _ (by omega)
      have q3 : 0 ≤ b * 840 / y := Int.ediv_nonneg (by omega) (by omega)
      have q4 : b * 840 / y ≤ b * 840 := Int.ediv_le_self _ (by omega)
      have HL : Hid (lagI a x b y = max (a * 840 / x - b * 840 / y) (-(a * 840 / x - b * 840 / y))) := by
        show lagI a x b y = _
        simp only [lagI, h1, h2, and_self, if_true, lagD]
      go_enter Try.func16, Try.ntmps16
      go_wp2_with (go_at_call 21; refine (share_w _ _ _).mono ?_; rintro e w' ⟨rfl, rfl⟩)
      go_region
      all_goals go_wp2
      all_goals go_ret
      all_goals exact ⟨ret_int (by rw [HL.out]), (Below.refl _ _).drew⟩
    · simp only [Bool.not_eq_true] at h2
      go_enter Try.func16, Try.ntmps16
      go_wp2_with (go_at_call 21; refine (share_w _ _ _).mono ?_; rintro e w' ⟨rfl, rfl⟩)
      go_ret
      exact ⟨ret_int (by simp [lagI, h2]), Below.refl _ _⟩
  · simp only [Bool.not_eq_true] at h1
    go_enter Try.func16, Try.ntmps16
    go_wp2_with (go_at_call 21; refine (share_w _ _ _).mono ?_; rintro e w' ⟨rfl, rfl⟩)
    go_ret
    exact ⟨ret_int (by simp [lagI, h1]), Below.refl _ _⟩

theorem rlag_w (a x b y : Int) (w : World) : Calls Try.prog 17 #[.int .i64 a, .int .i64 x, .int .i64 b, .int .i64 y] w (RetI (lagI a x b y) w) := by
  by_cases h : shB a x = true ∧ shB b y = true
  · obtain ⟨h1, h2⟩ := h
    have HL : Hid (lagI a x b y = max (a * 840 / x - b * 840 / y) (-(a * 840 / x - b * 840 / y))) := by
      show lagI a x b y = _
      simp only [lagI, h1, h2, and_self, if_true, lagD]
    obtain ⟨a1, a2, x1, x2⟩ := sh_t h1
    obtain ⟨b1, b2, y1, y2⟩ := sh_t h2
    have q1 : 0 ≤ a * 840 / x := Int.ediv_nonneg (by omega) (by omega)
    have q2 : a * 840 / x ≤ a * 840 := Int.ediv_le_self _ (by omega)
    have q3 : 0 ≤ b * 840 / y := Int.ediv_nonneg (by omega) (by omega)
    have q4 : b * 840 / y ≤ b * 840 := Int.ediv_le_self _ (by omega)
    clear h1 h2
    go_enter Try.func17, Try.ntmps17
    go_wp2
    go_region
    all_goals go_wp2
    all_goals go_ret
    all_goals exact ⟨ret_int (by rw [HL.out]), (Below.refl _ _).drew⟩
  · have HL : Hid (lagI a x b y = 0) := by
      show lagI a x b y = 0
      simp [lagI, h]
    have hn : ¬ ((0 ≤ a ∧ a ≤ 1073741824 ∧ 1 ≤ x ∧ x ≤ 8) ∧ (0 ≤ b ∧ b ≤ 1073741824 ∧ 1 ≤ y ∧ y ≤ 8)) := by simpa [shB] using h
    clear h
    go_enter Try.func17, Try.ntmps17
    go_wp2
    all_goals go_ret
    all_goals exact ⟨ret_int (by rw [HL.out]), Below.refl _ _⟩

end Go.Proofs.Ytehhdeafimomfaa
