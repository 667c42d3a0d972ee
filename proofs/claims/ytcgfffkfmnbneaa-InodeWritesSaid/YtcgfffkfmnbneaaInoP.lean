/-
  Sectors in plain Lean: what tears of sectors decode to.
-/
import Derived.Test.YtcgfffkfmnbneaaInoA
namespace Go.Proofs.Ytcgfffkfmnbneaa
open Go.RowKit
set_option linter.unusedVariables false
set_option linter.unusedSimpArgs false

theorem enc_v {q s b f : Int} (hv : vaB q s b = true) (h1 : 0 ≤ f) (h2 : f < 8) : encS q s b f = secH (by8 (q / 256)) (by8 (q % 256)) (by8 s) (by8 b) f ∧ encE q s b f = 0 := by simp [encS, encE, hv, h1, h2]
theorem enc_nv {q s b f : Int} (hv : vaB q s b = false) : encE q s b f = 1 := by simp [encE, hv]
theorem by8_inj {m n : Int} (a0 : 0 ≤ m) (a1 : m < 256) (b0 : 0 ≤ n) (b1 : n < 256) (h : by8 m = by8 n) : m = n := by
  rw [← by8_nat a0 a1, ← by8_nat b0 b1, h]
/-- The first half of one inode and the second one of another: decoded just if they are the same. -/
theorem mixed {q s b q' s' b' f : Int} (hv : vaB q s b = true) (hv' : vaB q' s' b' = true) (h1 : 0 ≤ f) (h2 : f < 8) :
    ∀ T, T = sec (by8 (q / 256)) (by8 (q % 256)) (by8 s) (by8 b) (nbU (by8 (q' / 256)) f) (nbU (by8 (q' % 256)) f) (nbU (by8 s') f) (nbU (by8 b') f) →
      (q = q' ∧ s = s' ∧ b = b' → decOk T f = true ∧ decQ T f = q ∧ decS T f = s ∧ decB T f = b) ∧ (¬ (q = q' ∧ s = s' ∧ b = b') → decOk T f = false) := by
  rintro T rfl
  obtain ⟨a1, a2, a3, a4, a5, a6⟩ := va_t hv
  obtain ⟨c1, c2, c3, c4, c5, c6⟩ := va_t hv'
  have e : ∀ a b c d e g h i : UInt8, decOk (sec a b c d e g h i) f = (decide (0 ≤ f ∧ f < 8) && ok8 a b c d e g h i f) := fun _ _ _ _ _ _ _ _ => rfl
  have hd : decide (0 ≤ f ∧ f < 8) = true := by simp; omega
  constructor
  · rintro ⟨rfl, rfl, rfl⟩
    have hok : decOk (sec (by8 (q / 256)) (by8 (q % 256)) (by8 s) (by8 b) (nbU (by8 (q / 256)) f) (nbU (by8 (q % 256)) f) (nbU (by8 s) f) (nbU (by8 b) f)) f = true := by
      rw [e, hd]
      simp only [ok8, beq_self_eq_true, Bool.and_true, Bool.true_and, decide_eq_true_eq]
      rw [by8_nat (by omega) (by omega)]
      omega
    refine ⟨hok, ?_, ?_, ?_⟩
    · unfold decQ
      rw [if_pos hok]
      show ((by8 (q / 256)).toNat : Int) * 256 + ((by8 (q % 256)).toNat : Int) = q
      rw [by8_nat (by omega) (by omega), by8_nat (by omega) (by omega)]
      omega
    · unfold decS
      rw [if_pos hok]
      exact by8_nat (by omega) (by omega)
    · unfold decB
      rw [if_pos hok]
      exact by8_nat (by omega) (by omega)
  · intro hn
    rw [e, hd, Bool.true_and]
    cases hok : ok8 (by8 (q / 256)) (by8 (q % 256)) (by8 s) (by8 b) (nbU (by8 (q' / 256)) f) (nbU (by8 (q' % 256)) f) (nbU (by8 s') f) (nbU (by8 b') f) f with
    | false => rfl
    | true =>
      exfalso
      simp only [ok8, Bool.and_eq_true, beq_iff_eq] at hok
      obtain ⟨⟨⟨⟨k1, k2⟩, k3⟩, k4⟩, _⟩ := hok
      have g1 := by8_inj (by omega) (by omega) (by omega) (by omega) (nb_inj h1 h2 k1)
      have g2 := by8_inj (by omega) (by omega) (by omega) (by omega) (nb_inj h1 h2 k2)
      have g3 := by8_inj (by omega) (by omega) (by omega) (by omega) (nb_inj h1 h2 k3)
      have g4 := by8_inj (by omega) (by omega) (by omega) (by omega) (nb_inj h1 h2 k4)
      exact hn ⟨by omega, g3, g4⟩
theorem toS_0 (a b c d a' b' c' d' : UInt8) (f : Int) : toS (secH a b c d f) (secH a' b' c' d' f) 0 = sec a' b' c' d' (nbU a f) (nbU b f) (nbU c f) (nbU d f) ∧ toE (secH a b c d f) (secH a' b' c' d' f) 0 = 0 := ⟨rfl, rfl⟩
theorem toS_1 (a b c d a' b' c' d' : UInt8) (f : Int) : toS (secH a b c d f) (secH a' b' c' d' f) 1 = sec a b c d (nbU a' f) (nbU b' f) (nbU c' f) (nbU d' f) ∧ toE (secH a b c d f) (secH a' b' c' d' f) 1 = 0 := ⟨rfl, rfl⟩
theorem secH_size (a b c d : UInt8) (f : Int) : (secH a b c d f).size ≤ maxLen := by unfold maxLen; show 8 ≤ _; omega
theorem sec_size (a b c d e g h i : UInt8) : (sec a b c d e g h i).size ≤ maxLen := by unfold maxLen; show 8 ≤ _; omega

/-- A torn sector of two inodes, and what is decoded of it. -/
theorem tears_pack {q s b q' s' b' f k : Int} (hv : vaB q s b = true) (hv' : vaB q' s' b' = true) (h1 : 0 ≤ f) (h2 : f < 8) (hk : k = 0 ∨ k = 1) :
    ∃ S1 S2 T ok q3 s3 b3, (∀ w, Calls Try.prog 11 #[.agg #[.int .i64 q, .int .i64 s, .int .i64 b], .int .i64 f] w (RetSE S1 0 w)) ∧
      (∀ w, Calls Try.prog 11 #[.agg #[.int .i64 q', .int .i64 s', .int .i64 b'], .int .i64 f] w (RetSE S2 0 w)) ∧
      (∀ w, Calls Try.prog 20 #[.string S1, .string S2, .int .i64 k] w (RetSE T 0 w)) ∧ (∀ w, Calls Try.prog 13 #[.string T, .int .i64 f] w (RetD ok q3 s3 b3 w)) ∧
      (q = q' ∧ s = s' ∧ b = b' → ok = true ∧ q3 = q ∧ s3 = s ∧ b3 = b) ∧ (¬ (q = q' ∧ s = s' ∧ b = b') → ok = false) := by
  obtain ⟨e1, e2⟩ := enc_v hv h1 h2
  obtain ⟨e3, e4⟩ := enc_v hv' h1 h2
  have c1 := encode_w q s b f
  have c2 := encode_w q' s' b' f
  rw [e1, e2] at c1
  rw [e3, e4] at c2
  rcases hk with rfl | rfl
  · obtain ⟨t1, t2⟩ := toS_0 (by8 (q / 256)) (by8 (q % 256)) (by8 s) (by8 b) (by8 (q' / 256)) (by8 (q' % 256)) (by8 s') (by8 b') f
    have c3 := fun w => torn_w _ _ 0 w (secH_size (by8 (q / 256)) (by8 (q % 256)) (by8 s) (by8 b) f) (secH_size (by8 (q' / 256)) (by8 (q' % 256)) (by8 s') (by8 b') f)
    rw [t1, t2] at c3
    obtain ⟨m1, m2⟩ := mixed hv' hv h1 h2 _ rfl
    exact ⟨_, _, _, _, _, _, _, c1, c2, c3, fun w => decode_w _ f w (sec_size _ _ _ _ _ _ _ _), fun ⟨a, b, c⟩ => by subst a; subst b; subst c; exact m1 ⟨rfl, rfl, rfl⟩, fun h => m2 (fun ⟨a, b, c⟩ => h ⟨a.symm, b.symm, c.symm⟩)⟩
  · obtain ⟨t1, t2⟩ := toS_1 (by8 (q / 256)) (by8 (q % 256)) (by8 s) (by8 b) (by8 (q' / 256)) (by8 (q' % 256)) (by8 s') (by8 b') f
    have c3 := fun w => torn_w _ _ 1 w (secH_size (by8 (q / 256)) (by8 (q % 256)) (by8 s) (by8 b) f) (secH_size (by8 (q' / 256)) (by8 (q' % 256)) (by8 s') (by8 b') f)
    rw [t1, t2] at c3
    obtain ⟨m1, m2⟩ := mixed hv hv' h1 h2 _ rfl
    exact ⟨_, _, _, _, _, _, _, c1, c2, c3, fun w => decode_w _ f w (sec_size _ _ _ _ _ _ _ _), m1, m2⟩

end Go.Proofs.Ytcgfffkfmnbneaa
