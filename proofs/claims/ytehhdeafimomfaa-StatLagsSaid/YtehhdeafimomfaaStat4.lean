/-
  The laws StatLags and StatBuckets: the walks.
-/
import Derived.Test.YtehhdeafimomfaaStat3
namespace Go.Proofs.Ytehhdeafimomfaa
open Go.RowKit
set_option linter.unusedVariables false

theorem lag_facts (p q u v : Int) (p0 : 0 ≤ p) (p1 : p < 1048576) (q0 : 0 ≤ q) (q1 : q < 1048576) (u0 : 1 ≤ u) (u1 : u ≤ 8) (v0 : 1 ≤ v) (v1 : v ≤ 8) :
    lagD q v p u = -lagD p u q v ∧ (lagD p u q v = 0 ↔ p * v = q * u) ∧ -880803840 ≤ lagD p u q v ∧ lagD p u q v ≤ 880803840 := by
  unfold lagD
  have hu : u = 1 ∨ u = 2 ∨ u = 3 ∨ u = 4 ∨ u = 5 ∨ u = 6 ∨ u = 7 ∨ u = 8 := by omega
  have hv : v = 1 ∨ v = 2 ∨ v = 3 ∨ v = 4 ∨ v = 5 ∨ v = 6 ∨ v = 7 ∨ v = 8 := by omega
  clear u0 u1 v0 v1
  rcases hu with rfl|rfl|rfl|rfl|rfl|rfl|rfl|rfl <;> rcases hv with rfl|rfl|rfl|rfl|rfl|rfl|rfl|rfl <;> refine ⟨by omega, by omega, by omega, by omega⟩

theorem lag_sum (p q u v : Int) (p0 : 0 ≤ p) (p1 : p < 1048576) (q0 : 0 ≤ q) (q1 : q < 1048576) (u0 : 1 ≤ u) (u1 : u ≤ 8) (v0 : 1 ≤ v) (v1 : v ≤ 8) :
    lagI q v p u = lagI p u q v ∧ 0 ≤ lagI p u q v ∧ (lagI p u q v = 0 ↔ p * v = q * u) := by
  obtain ⟨h1, h2, h3, h4⟩ := lag_facts p q u v p0 p1 q0 q1 u0 u1 v0 v1
  have s1 : shB p u = true := by simp only [shB, decide_eq_true_eq]; omega
  have s2 : shB q v = true := by simp only [shB, decide_eq_true_eq]; omega
  have e1 : lagI p u q v = max (lagD p u q v) (-lagD p u q v) := by unfold lagI; rw [if_pos ⟨s1, s2⟩]
  have e2 : lagI q v p u = max (lagD q v p u) (-lagD q v p u) := by unfold lagI; rw [if_pos ⟨s2, s1⟩]
  rw [e1, e2, h1, ← h2]
  omega

set_option maxHeartbeats 1000000 in
theorem statLags_walk (a x b y : Int) (w : World) :
    Calls Try.prog 7 #[.int .i64 a, .int .i64 x, .int .i64 b, .int .i64 y] w fun e w' => e = .returned (.bool true) ∧ Below w.heap.size w w' := by
  have ⟨p0, p1⟩ := cutI_range a 1048576 (by omega)
  have ⟨q0, q1⟩ := cutI_range b 1048576 (by omega)
  have ⟨u0, u1⟩ := cutI_range x 8 (by omega)
  have ⟨v0, v1⟩ := cutI_range y 8 (by omega)
  obtain ⟨p, hp⟩ : ∃ p, p = cutI a 1048576 := ⟨_, rfl⟩
  obtain ⟨q, hq⟩ : ∃ p, p = cutI b 1048576 := ⟨_, rfl⟩
  obtain ⟨u, hu⟩ : ∃ p, p = cutI x 8 := ⟨_, rfl⟩
  obtain ⟨v, hv⟩ : ∃ p, p = cutI y 8 := ⟨_, rfl⟩
  rw [← hp] at p0 p1
  rw [← hq] at q0 q1
  rw [← hu] at u0 u1
  rw [← hv] at v0 v1
  obtain ⟨L1, L2, L3⟩ := lag_sum p q (1 + u) (1 + v) p0 p1 q0 q1 (by omega) (by omega) (by omega) (by omega)
  have m1 : wrap64 (p * (1 + v)) = p * (1 + v) := IntWalk.wrap64_in _ (by
    have h1 : 0 ≤ p * (1 + v) := Int.mul_nonneg p0 (by omega)
    have h2 : p * (1 + v) ≤ 1048576 * 8 := Int.mul_le_mul (by omega) (by omega) (by omega) (by omega)
    omega)
  have m2 : wrap64 (q * (1 + u)) = q * (1 + u) := IntWalk.wrap64_in _ (by
    have h1 : 0 ≤ q * (1 + u) := Int.mul_nonneg q0 (by omega)
    have h2 : q * (1 + u) ≤ 1048576 * 8 := Int.mul_le_mul (by omega) (by omega) (by omega) (by omega)
    omega)
  obtain ⟨N, hN⟩ : ∃ N, N = lagI p (1 + u) q (1 + v) := ⟨_, rfl⟩
  rw [← hN] at L1 L2 L3
  have l1 := fun w => lag_w p (1 + u) q (1 + v) w
  rw [← hN] at l1
  have l2 := fun w => lag_w q (1 + v) p (1 + u) w
  rw [L1] at l2
  have r1 := fun w => round_w a 1048576 w (by omega) (by omega)
  have r2 := fun w => round_w b 1048576 w (by omega) (by omega)
  have r3 := fun w => round_w x 8 w (by omega) (by omega)
  have r4 := fun w => round_w y 8 w (by omega) (by omega)
  rw [← hp] at r1
  rw [← hq] at r2
  rw [← hu] at r3
  rw [← hv] at r4
  clear hN L1 hp hq hu hv
  have hbe : (N == 0) = (p * (1 + v) == q * (1 + u)) := by
    rw [Bool.eq_iff_iff]
    simpa using L3
  go_enter Try.func7, Try.ntmps7
  go_upto_region 2 with (go_at_call 8; first | ((with_reducible refine Calls.mono (r1 _) ?_); rintro e w' ⟨rfl, rfl⟩) | ((with_reducible refine Calls.mono (r2 _) ?_); rintro e w' ⟨rfl, rfl⟩) | ((with_reducible refine Calls.mono (r3 _) ?_); rintro e w' ⟨rfl, rfl⟩) | ((with_reducible refine Calls.mono (r4 _) ?_); rintro e w' ⟨rfl, rfl⟩))
  go_cut [9, 10, 11, 12] (fun s9 s10 s11 s12 wx => s9 = .int .i64 p ∧ s10 = .int .i64 q ∧ s11 = .int .i64 (1 + u) ∧ s12 = .int .i64 (1 + v) ∧ w = wx)
  case first =>
    go_wp2_with (go_at_call 8; first | ((with_reducible refine Calls.mono (r1 _) ?_); rintro e w' ⟨rfl, rfl⟩) | ((with_reducible refine Calls.mono (r2 _) ?_); rintro e w' ⟨rfl, rfl⟩) | ((with_reducible refine Calls.mono (r3 _) ?_); rintro e w' ⟨rfl, rfl⟩) | ((with_reducible refine Calls.mono (r4 _) ?_); rintro e w' ⟨rfl, rfl⟩))
    go_meet
    case rel => exact ⟨rfl, rfl, rfl, rfl, rfl⟩
  case rest =>
    obtain ⟨rfl, rfl, rfl, rfl, rfl⟩ := hcut
    clear r1 r2 r3 r4
    go_wp2_with (first | (go_at_call 16; first | ((with_reducible refine Calls.mono (l1 _) ?_); rintro e w1 ⟨rfl, hb1⟩) | ((with_reducible refine Calls.mono (l2 _) ?_); rintro e w2 ⟨rfl, hb2⟩)) | (go_at_call 13; refine (awake_w _).mono ?_; rintro e w3 ⟨rfl, hb3⟩))
    all_goals go_ret
    all_goals exact ⟨ret_bool (by simp [hbe]), by (repeat (with_reducible first | assumption | exact Below.refl _ _ | refine bl_alloc ?_ _ | apply Below.drew | refine below_drewN ?_ _ | (apply bl_step2; assumption) | (refine Below.setCell ?_ (Nat.le_refl _) _) | (refine Below.setCell ?_ (by first | omega | (simp; done) | (go_simp; done)) _)))⟩

theorem aux_lo : ∀ f x : Nat, Lib.bitLenAux f x = 0 ∨ 2 ^ (Lib.bitLenAux f x - 1) ≤ x
  | 0, x => by simp [Lib.bitLenAux]
  | f + 1, x => by
    have ih := aux_lo f (x / 2)
    simp only [Lib.bitLenAux]
    split
    · omega
    · right
      generalize Lib.bitLenAux f (x / 2) = m at ih
      rcases ih with h | h
      · subst h; simp; omega
      · cases m with
        | zero => simp; omega
        | succ m => simp only [Nat.add_sub_cancel, show 1 + (m + 1) - 1 = m + 1 from by omega, show m + 1 + 1 - 1 = m + 1 from by omega, Nat.pow_succ] at *; omega
theorem aux_hi : ∀ f x : Nat, Lib.bitLenAux f x < f → x < 2 ^ Lib.bitLenAux f x
  | 0, x => by simp [Lib.bitLenAux]
  | f + 1, x => by
    have ih := aux_hi f (x / 2)
    simp only [Lib.bitLenAux]
    split
    · intro _; simp; omega
    · intro h
      generalize Lib.bitLenAux f (x / 2) = m at ih h
      have := ih (by omega)
      first
        | (rw [Nat.pow_succ]; omega)
        | (rw [Nat.add_comm 1 m, Nat.pow_succ]; omega)
theorem aux_mono : ∀ f x y : Nat, x ≤ y → Lib.bitLenAux f x ≤ Lib.bitLenAux f y
  | 0, x, y, _ => by simp [Lib.bitLenAux]
  | f + 1, x, y, h => by
    have ih := aux_mono f (x / 2) (y / 2) (by omega)
    simp only [Lib.bitLenAux]
    split <;> split <;> omega

theorem bk_facts (x y : Int) (x0 : 0 ≤ x) (x1 : x < 65536) (y0 : 0 ≤ y) (y1 : y < 65536) :
    ∃ K : Nat, K ≤ 15 ∧ bkI x = K ∧ (K : Int) ≤ bkI (x + y) ∧ (K = 0 ↔ x = 0) ∧ (K = 0 ∨ (2 : Int) ^ (K - 1) ≤ x) ∧ (K = 15 ∨ x < (2 : Int) ^ K) := by
  obtain ⟨n, rfl⟩ : ∃ n : Nat, x = n := ⟨x.toNat, by omega⟩
  obtain ⟨m, rfl⟩ : ∃ n : Nat, y = n := ⟨y.toNat, by omega⟩
  have h0 := aux_le 15 n
  have h1 := aux_lo 15 n
  have h2 := aux_hi 15 n
  have h3 := aux_mono 15 n (n + m) (by omega)
  have e1 : bkI (n : Int) = (Lib.bitLenAux 15 n : Nat) := by simp [bkI, bkN]
  have e2 : bkI ((n : Int) + m) = (Lib.bitLenAux 15 (n + m) : Nat) := by unfold bkI bkN; rw [show ((n : Int) + m).toNat = n + m from by omega]
  have e3 : Lib.bitLenAux 15 n = 0 ↔ n = 0 := by
    rw [Lib.bitLenAux]
    split <;> omega
  refine ⟨Lib.bitLenAux 15 n, h0, e1, by rw [e2]; omega, by omega, ?_, ?_⟩
  · rcases h1 with h | h
    · exact .inl h
    · right
      have : ((2 ^ (Lib.bitLenAux 15 n - 1) : Nat) : Int) ≤ n := by exact_mod_cast h
      simpa using this
  · by_cases h : Lib.bitLenAux 15 n = 15
    · exact .inl h
    · right
      have : (n : Int) < ((2 ^ Lib.bitLenAux 15 n : Nat) : Int) := by exact_mod_cast h2 (by omega)
      simpa using this

theorem bk_lit {K : Nat} {x B : Int} (h : K ≤ 15) (k2 : (K : Int) ≤ B) (k3 : K = 0 ↔ x = 0) (k4 : K = 0 ∨ (2 : Int) ^ (K - 1) ≤ x) (k5 : K = 15 ∨ x < (2 : Int) ^ K) :
    (K = 0 ∧ x = 0) ∨ (K = 1 ∧ 1 ≤ x ∧ x < 2 ∧ (1 : Int) ≤ B ∧ (x == 0) = false) ∨ (K = 2 ∧ 2 ≤ x ∧ x < 4 ∧ (2 : Int) ≤ B ∧ (x == 0) = false) ∨ (K = 3 ∧ 4 ≤ x ∧ x < 8 ∧ (3 : Int) ≤ B ∧ (x == 0) = false) ∨ (K = 4 ∧ 8 ≤ x ∧ x < 16 ∧ (4 : Int) ≤ B ∧ (x == 0) = false) ∨ (K = 5 ∧ 16 ≤ x ∧ x < 32 ∧ (5 : Int) ≤ B ∧ (x == 0) = false) ∨ (K = 6 ∧ 32 ≤ x ∧ x < 64 ∧ (6 : Int) ≤ B ∧ (x == 0) = false) ∨ (K = 7 ∧ 64 ≤ x ∧ x < 128 ∧ (7 : Int) ≤ B ∧ (x == 0) = false) ∨ (K = 8 ∧ 128 ≤ x ∧ x < 256 ∧ (8 : Int) ≤ B ∧ (x == 0) = false) ∨ (K = 9 ∧ 256 ≤ x ∧ x < 512 ∧ (9 : Int) ≤ B ∧ (x == 0) = false) ∨ (K = 10 ∧ 512 ≤ x ∧ x < 1024 ∧ (10 : Int) ≤ B ∧ (x == 0) = false) ∨ (K = 11 ∧ 1024 ≤ x ∧ x < 2048 ∧ (11 : Int) ≤ B ∧ (x == 0) = false) ∨ (K = 12 ∧ 2048 ≤ x ∧ x < 4096 ∧ (12 : Int) ≤ B ∧ (x == 0) = false) ∨ (K = 13 ∧ 4096 ≤ x ∧ x < 8192 ∧ (13 : Int) ≤ B ∧ (x == 0) = false) ∨ (K = 14 ∧ 8192 ≤ x ∧ x < 16384 ∧ (14 : Int) ≤ B ∧ (x == 0) = false) ∨ (K = 15 ∧ 16384 ≤ x ∧ (15 : Int) ≤ B ∧ (x == 0) = false) := by
  have hK : K = 0 ∨ K = 1 ∨ K = 2 ∨ K = 3 ∨ K = 4 ∨ K = 5 ∨ K = 6 ∨ K = 7 ∨ K = 8 ∨ K = 9 ∨ K = 10 ∨ K = 11 ∨ K = 12 ∨ K = 13 ∨ K = 14 ∨ K = 15 := by omega
  have hb : (x == 0) = false ↔ ¬ x = 0 := by simp
  rw [hb]
  clear hb
  rcases hK with rfl|rfl|rfl|rfl|rfl|rfl|rfl|rfl|rfl|rfl|rfl|rfl|rfl|rfl|rfl|rfl <;> simp at k3 k4 k5 ⊢ <;> omega

set_option maxHeartbeats 3000000 in
theorem statBuckets_walk (a m : Int) (w : World) :
    Calls Try.prog 5 #[.int .i64 a, .int .i64 m] w fun e w' => e = .returned (.bool true) ∧ Below w.heap.size w w' := by
  have ⟨x0, x1⟩ := cutI_range a 65536 (by omega)
  have ⟨y0, y1⟩ := cutI_range m 65536 (by omega)
  have r1 := fun w => round_w a 65536 w (by omega) (by omega)
  have r2 := fun w => round_w m 65536 w (by omega) (by omega)
  obtain ⟨x, hx⟩ : ∃ x, x = cutI a 65536 := ⟨_, rfl⟩
  obtain ⟨y, hy⟩ : ∃ x, x = cutI m 65536 := ⟨_, rfl⟩
  rw [← hx] at x0 x1 r1
  rw [← hy] at y0 y1 r2
  clear hx hy
  obtain ⟨K, K15, k1, k2, k3, k4, k5⟩ := bk_facts x y x0 x1 y0 y1
  have b1 := fun w => bucket_w x w (by omega) (by omega)
  have b2 := fun w => bucket_w (x + y) w (by omega) (by omega)
  have ⟨_, k6⟩ := bkI_range (x + y)
  rw [k1] at b1
  obtain ⟨B, hB⟩ : ∃ B, B = bkI (x + y) := ⟨_, rfl⟩
  rw [← hB] at b2 k2 k6
  clear k1 hB
  go_enter Try.func5, Try.ntmps5
  go_upto_region 3 with (first | (go_at_call 8; first | ((with_reducible refine Calls.mono (r1 _) ?_); rintro e w' ⟨rfl, rfl⟩) | ((with_reducible refine Calls.mono (r2 _) ?_); rintro e w' ⟨rfl, rfl⟩)) | (go_at_call 14; first | ((with_reducible refine Calls.mono (b1 _) ?_); rintro e w' ⟨rfl, rfl⟩) | ((with_reducible refine Calls.mono (b2 _) ?_); rintro e w' ⟨rfl, rfl⟩)))
  go_cut [5, 6, 7] (fun s5 s6 s7 wx => s5 = .int .i64 x ∧ s6 = .int .i64 (x + y) ∧ s7 = .int .i64 K ∧ w = wx)
  case first =>
    go_wp2_with (first | (go_at_call 8; first | ((with_reducible refine Calls.mono (r1 _) ?_); rintro e w' ⟨rfl, rfl⟩) | ((with_reducible refine Calls.mono (r2 _) ?_); rintro e w' ⟨rfl, rfl⟩)) | (go_at_call 14; first | ((with_reducible refine Calls.mono (b1 _) ?_); rintro e w' ⟨rfl, rfl⟩) | ((with_reducible refine Calls.mono (b2 _) ?_); rintro e w' ⟨rfl, rfl⟩)))
    go_meet
    case rel => exact ⟨rfl, rfl, rfl, rfl⟩
  case rest =>
    obtain ⟨rfl, rfl, rfl, rfl⟩ := hcut
    clear r1 r2 b1
    have hl := bk_lit K15 k2 k3 k4 k5
    clear k3 k4 k5 K15
    rcases hl with ⟨rfl, rfl⟩ | ⟨rfl, l1, l2, l3, l4⟩ | ⟨rfl, l1, l2, l3, l4⟩ | ⟨rfl, l1, l2, l3, l4⟩ | ⟨rfl, l1, l2, l3, l4⟩ | ⟨rfl, l1, l2, l3, l4⟩ | ⟨rfl, l1, l2, l3, l4⟩ | ⟨rfl, l1, l2, l3, l4⟩ | ⟨rfl, l1, l2, l3, l4⟩ | ⟨rfl, l1, l2, l3, l4⟩ | ⟨rfl, l1, l2, l3, l4⟩ | ⟨rfl, l1, l2, l3, l4⟩ | ⟨rfl, l1, l2, l3, l4⟩ | ⟨rfl, l1, l2, l3, l4⟩ | ⟨rfl, l1, l2, l3, l4⟩ | ⟨rfl, l1, l3, l4⟩
    all_goals (try rw [Int.zero_add] at b2)
    all_goals go_wp2_with (first | (first | (go_at_call 8; first | ((with_reducible refine Calls.mono (r1 _) ?_); rintro e w' ⟨rfl, rfl⟩) | ((with_reducible refine Calls.mono (r2 _) ?_); rintro e w' ⟨rfl, rfl⟩)) | (go_at_call 14; first | ((with_reducible refine Calls.mono (b1 _) ?_); rintro e w' ⟨rfl, rfl⟩) | ((with_reducible refine Calls.mono (b2 _) ?_); rintro e w' ⟨rfl, rfl⟩))) | (go_at_call 13; refine (awake_w _).mono ?_; rintro e w3 ⟨rfl, hb3⟩))
    all_goals go_ret
    all_goals exact ⟨rfl, by (repeat (with_reducible first | assumption | exact Below.refl _ _ | refine bl_alloc ?_ _ | apply Below.drew | refine below_drewN ?_ _ | (apply bl_step2; assumption) | (refine Below.setCell ?_ (Nat.le_refl _) _) | (refine Below.setCell ?_ (by first | omega | (simp; done) | (go_simp; done)) _)))⟩

end Go.Proofs.Ytehhdeafimomfaa
