/-
  The law InodeWrites in plain Lean: a sector that later inodes share no half with, and what tears make of it.
-/
import Derived.Test.YtcgfffkfmnbneaaInoP
namespace Go.Proofs.Ytcgfffkfmnbneaa
open Go.RowKit
set_option linter.unusedVariables false
set_option linter.unusedSimpArgs false

/-- The sector of an inode. -/
abbrev secI (q s z f : Int) : ByteArray := secH (by8 (q / 256)) (by8 (q % 256)) (by8 s) (by8 z) f
def Safe (T : ByteArray) (f last : Int) : Prop :=
  ∃ a b c d e g h i, T = sec a b c d e g h i ∧ ∀ q s z, vaB q s z = true → last < q → q ≤ 100 →
    ¬ (by8 (q / 256) = a ∧ by8 (q % 256) = b ∧ by8 s = c ∧ by8 z = d) ∧ ¬ (nbU (by8 (q / 256)) f = e ∧ nbU (by8 (q % 256)) f = g ∧ nbU (by8 s) f = h ∧ nbU (by8 z) f = i)
theorem Safe.mono {T : ByteArray} {f l l' : Int} (h : Safe T f l) (hl : l ≤ l') : Safe T f l' := by
  obtain ⟨a, b, c, d, e, g, h', i, hT, hs⟩ := h
  exact ⟨a, b, c, d, e, g, h', i, hT, fun q s z hv h1 h2 => hs q s z hv (by omega) h2⟩
theorem Safe.size {T : ByteArray} {f l : Int} (h : Safe T f l) : T.size ≤ maxLen := by
  obtain ⟨a, b, c, d, e, g, h', i, rfl, hs⟩ := h
  exact sec_size _ _ _ _ _ _ _ _
theorem seq_ne {q q' : Int} (h0 : 0 ≤ q) (h1 : q ≤ 65535) (h2 : 0 ≤ q') (h3 : q' ≤ 65535) (a : by8 (q' / 256) = by8 (q / 256)) (b : by8 (q' % 256) = by8 (q % 256)) : q' = q := by
  have g1 := by8_inj (by omega) (by omega) (by omega) (by omega) a
  have g2 := by8_inj (by omega) (by omega) (by omega) (by omega) b
  omega
theorem safe_enc {q s z f last : Int} (hv : vaB q s z = true) (hq : q ≤ last) (f0 : 0 ≤ f) (f1 : f < 8) : Safe (secI q s z f) f last := by
  obtain ⟨a1, a2, _⟩ := va_t hv
  refine ⟨_, _, _, _, _, _, _, _, rfl, fun q' s' z' hv' hl h100 => ⟨?_, ?_⟩⟩
  · rintro ⟨k1, k2, _⟩
    obtain ⟨c1, c2, _⟩ := va_t hv'
    have := seq_ne a1 a2 c1 c2 k1 k2
    omega
  · rintro ⟨k1, k2, _⟩
    obtain ⟨c1, c2, _⟩ := va_t hv'
    have := seq_ne a1 a2 c1 c2 (nb_inj f0 f1 k1) (nb_inj f0 f1 k2)
    omega
theorem nb_zero : ((List.range 8).all fun f => nbI 0 f != 0) = true := by kernel_rfl
theorem safe_zero {f : Int} (f0 : 0 ≤ f) (f1 : f < 8) : Safe (sec 0 0 0 0 0 0 0 0) f 0 ∧ decOk (sec 0 0 0 0 0 0 0 0) f = false := by
  have hz : nbU 0 f ≠ 0 := by
    obtain ⟨n, rfl⟩ := Int.eq_ofNat_of_zero_le f0
    have h := List.all_eq_true.1 nb_zero n (by simp; omega)
    intro e
    have h2 := nb_nat 0 (n : Int)
    rw [e] at h2
    simp at h
    exact h h2
  constructor
  · refine ⟨_, _, _, _, _, _, _, _, rfl, fun q s z hv hl h100 => ⟨?_, ?_⟩⟩
    · rintro ⟨k1, k2, _⟩
      have := by8_inj (m := q % 256) (n := 0) (by omega) (by omega) (by omega) (by omega) k2
      omega
    · rintro ⟨k1, _⟩
      have e : q / 256 = 0 := by omega
      rw [e] at k1
      exact hz k1
  · cases hok : decOk (sec 0 0 0 0 0 0 0 0) f with
    | false => rfl
    | true =>
      exfalso
      have h : (decide (0 ≤ f ∧ f < 8) && ok8 0 0 0 0 0 0 0 0 f) = true := hok
      simp only [Bool.and_eq_true, ok8, beq_iff_eq] at h
      exact hz h.2.1.1.1.1
/-- A torn write over a safe sector: not decoded, and safe against what comes later. -/
theorem torn_safe {O : ByteArray} {q s z f last last' k : Int} (hO : Safe O f last) (hv : vaB q s z = true) (h1 : last < q) (h2 : q ≤ 100) (h3 : q ≤ last') (f0 : 0 ≤ f) (f1 : f < 8) (hk : k = 0 ∨ k = 1) :
    decOk (toS O (secI q s z f) k) f = false ∧ toE O (secI q s z f) k = 0 ∧ Safe (toS O (secI q s z f) k) f last' := by
  obtain ⟨a, b, c, d, e, g, h, i, rfl, hs⟩ := hO
  have hx := hs q s z hv h1 h2
  obtain ⟨_, _, _, _, _, _, _, _, e2, hs2⟩ := safe_enc (last := last') hv h3 f0 f1
  simp only [secI, secH, sec, ByteArray.mk.injEq] at e2
  have e3 : #[by8 (q / 256), by8 (q % 256), by8 s, by8 z, nbU (by8 (q / 256)) f, nbU (by8 (q % 256)) f, nbU (by8 s) f, nbU (by8 z) f] = _ := e2
  simp only [Array.mk.injEq, List.cons.injEq, and_true] at e3
  obtain ⟨rfl, rfl, rfl, rfl, rfl, rfl, rfl, rfl⟩ := e3
  rcases hk with rfl | rfl
  · refine ⟨?_, rfl, by8 (q / 256), by8 (q % 256), by8 s, by8 z, e, g, h, i, rfl, fun q' s' z' hv' hl h100 => ⟨(hs2 q' s' z' hv' hl h100).1, (hs q' s' z' hv' (by omega) h100).2⟩⟩
    show (decide (0 ≤ f ∧ f < 8) && ok8 (by8 (q / 256)) (by8 (q % 256)) (by8 s) (by8 z) e g h i f) = false
    cases hok : ok8 (by8 (q / 256)) (by8 (q % 256)) (by8 s) (by8 z) e g h i f with
    | false => simp
    | true =>
      exfalso
      simp only [ok8, Bool.and_eq_true, beq_iff_eq] at hok
      obtain ⟨⟨⟨⟨k1, k2⟩, k3⟩, k4⟩, _⟩ := hok
      exact hx.2 ⟨k1, k2, k3, k4⟩
  · refine ⟨?_, rfl, a, b, c, d, nbU (by8 (q / 256)) f, nbU (by8 (q % 256)) f, nbU (by8 s) f, nbU (by8 z) f, rfl, fun q' s' z' hv' hl h100 => ⟨(hs q' s' z' hv' (by omega) h100).1, (hs2 q' s' z' hv' hl h100).2⟩⟩
    show (decide (0 ≤ f ∧ f < 8) && ok8 a b c d (nbU (by8 (q / 256)) f) (nbU (by8 (q % 256)) f) (nbU (by8 s) f) (nbU (by8 z) f) f) = false
    cases hok : ok8 a b c d (nbU (by8 (q / 256)) f) (nbU (by8 (q % 256)) f) (nbU (by8 s) f) (nbU (by8 z) f) f with
    | false => simp
    | true =>
      exfalso
      simp only [ok8, Bool.and_eq_true, beq_iff_eq] at hok
      obtain ⟨⟨⟨⟨k1, k2⟩, k3⟩, k4⟩, _⟩ := hok
      exact hx.1 ⟨(nb_inj f0 f1 k1).symm, (nb_inj f0 f1 k2).symm, (nb_inj f0 f1 k3).symm, (nb_inj f0 f1 k4).symm⟩

end Go.Proofs.Ytcgfffkfmnbneaa
