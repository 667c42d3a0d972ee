/-
  Marks that are set, cleared and read again, in plain Lean (for the law RadixMarks).
-/
import Derived.Test.YtpoagdffpajdjaaRadY
namespace Go.Proofs.Ytpoagdffpajdjaa
open Go.RowKit
set_option linter.unusedVariables false
set_option linter.unusedSimpArgs false

theorem bits_ao : ∀ (a k : Fin 8), (k.val = 1 ∨ k.val = 2 ∨ k.val = 4) → bits .and .i64 (bits .or .i64 (a.val : Int) (k.val : Int)) (k.val : Int) ≠ 0 := by decide +kernel
theorem bits_an : ∀ (a k : Fin 8), (k.val = 1 ∨ k.val = 2 ∨ k.val = 4) → bits .and .i64 (bits .andNot .i64 (bits .or .i64 (a.val : Int) (k.val : Int)) (k.val : Int)) (k.val : Int) = 0 ∧ 0 ≤ bits .andNot .i64 (bits .or .i64 (a.val : Int) (k.val : Int)) (k.val : Int) ∧ bits .andNot .i64 (bits .or .i64 (a.val : Int) (k.val : Int)) (k.val : Int) ≤ 7 := by decide +kernel
theorem one_mk7 {k : Int} (hk : oneB k = true) : mk7 k := by
  obtain ⟨z, rfl, hz⟩ := one_fin hk
  exact ⟨by omega, by omega⟩
theorem and_or_same {a k : Int} (ha : mk7 a) (hk : oneB k = true) : andI (orI a k) k ≠ 0 := by
  obtain ⟨x, rfl⟩ := mk7_fin ha
  obtain ⟨z, rfl, hz⟩ := one_fin hk
  exact bits_ao x z hz
theorem and_not_same {a k : Int} (ha : mk7 a) (hk : oneB k = true) : andI (notI (orI a k) k) k = 0 ∧ mk7 (notI (orI a k) k) := by
  obtain ⟨x, rfl⟩ := mk7_fin ha
  obtain ⟨z, rfl, hz⟩ := one_fin hk
  exact bits_an x z hz
theorem upd_same (c : Cn) (i : Nat) (v : Int × Int) : upd c i v i = v := by unfold upd; rw [if_pos rfl]
theorem upd_other {c : Cn} {i j : Nat} (v : Int × Int) (h : j ≠ i) : upd c i v j = c j := by unfold upd; rw [if_neg h]
/-- What is known of an entry of a tree. -/
theorem ent_of {h : Nat} {c : Cn} (hl : leafy c) (ht : TreeOk h c) {e : En} (he : e ∈ ents 0 (4 ^ h) c) : ∃ j : Nat, e = ((j : Int), (c j).1, (c j).2) ∧ j < 256 ∧ (c j).1 ≠ 0 ∧ mk7 (c j).2 ∧ (0 < (c j).1 ∨ (c j).2 = 0) := by
  have hp : 4 ^ h ≤ 256 := show 4 ^ h ≤ 4 ^ 4 from Nat.pow_le_pow_right (by omega) ht.1
  obtain ⟨j, hj, hne, rfl⟩ := mem_ents.1 he
  refine ⟨j, by rw [Nat.zero_add], by omega, ?_⟩
  rcases hl j with h0 | ⟨h1, h2, h3, h4⟩
  · exact absurd h0 hne
  · exact ⟨h1, ⟨h2, h3⟩, h4⟩
theorem inB_nat {j : Nat} (hj : j < 256) : inB (j : Int) = true := by unfold inB; simp; omega
theorem marked_nat {c : Cn} (hl : leafy c) {j : Nat} (hj : j < 256) {k : Int} (hk : oneB k = true) : markedR c (j : Int) k = (andI (c j).2 k != 0) := by
  unfold markedR frR
  rw [inB_nat hj, hk, Int.toNat_natCast]
  simp only [if_true]
  by_cases hv : (c j).1 ≤ 0
  · have h0 : (c j).2 = 0 := by
      rcases hl j with e | ⟨e1, e2, e3, e4⟩
      · rw [e]
      · rcases e4 with e4 | e4
        · omega
        · exact e4
    rw [h0, andI_zero k hk]
    simp
  · rw [if_neg hv]
    simp
theorem mark_pos {c : Cn} {j : Nat} (hj : j < 256) {k : Int} (hk : oneB k = true) (hv : 0 < (c j).1) : markR c (j : Int) k = (upd c j ((c j).1, orI (c j).2 k), 0) := by
  unfold markR frR
  rw [inB_nat hj, hk, Int.toNat_natCast]
  simp only [if_true]
  rw [if_neg (show ¬ (c j).1 ≤ 0 by omega)]
  simp
theorem mark_neg {c : Cn} {j : Nat} (hj : j < 256) {k : Int} (hk : oneB k = true) (hv : (c j).1 < 0) : markR c (j : Int) k = (zeroC, 4) := by
  unfold markR frR
  rw [inB_nat hj, hk, Int.toNat_natCast]
  simp only [if_true]
  rw [if_pos (show (c j).1 ≤ 0 by omega)]
  simp
theorem unmark_pos {c : Cn} {j : Nat} (hj : j < 256) {k : Int} (hk : oneB k = true) (hv : 0 < (c j).1) : unmarkR c (j : Int) k = (upd c j ((c j).1, notI (c j).2 k), 0) := by
  unfold unmarkR frR
  rw [inB_nat hj, hk, Int.toNat_natCast]
  simp only [if_true]
  rw [if_neg (show ¬ (c j).1 ≤ 0 by omega)]
  simp
theorem set_nat {c : Cn} {j : Nat} (hj : j < 256) (v : Int) : setR c (j : Int) v = (upd c j (v, 0), 0) := by
  unfold setR
  rw [inB_nat hj, Int.toNat_natCast]
  simp
/-- The three trees of the law. -/
theorem marks_of {c : Cn} (hl : leafy c) {j : Nat} (hj : j < 256) {k : Int} (hk : oneB k = true) (hv : 0 < (c j).1) (hm : mk7 (c j).2) :
    ∃ ca cb cc : Cn, markR c j k = (ca, 0) ∧ unmarkR ca j k = (cb, 0) ∧ setR ca j 5 = (cc, 0) ∧ leafy ca ∧ leafy cb ∧ leafy cc ∧ markedR ca j k = true ∧ markedR cb j k = false ∧ markedR cc j k = false ∧
      ∀ i : Nat, i < 256 → i ≠ j → ∀ q, oneB q = true → markedR ca i q = (andI (c i).2 q != 0) ∧ markedR cc i q = (andI (c i).2 q != 0) := by
  obtain ⟨hn, hn7⟩ := and_not_same hm hk
  have ha : leafy (upd c j ((c j).1, orI (c j).2 k)) := hl.upd (x := ((c j).1, orI (c j).2 k)) (.inr ⟨by show (c j).1 ≠ 0; omega, (orI_mk7 hm (one_mk7 hk)).1, (orI_mk7 hm (one_mk7 hk)).2, .inl hv⟩) j
  have hca : upd c j ((c j).1, orI (c j).2 k) j = ((c j).1, orI (c j).2 k) := upd_same _ _ _
  have hb : leafy (upd (upd c j ((c j).1, orI (c j).2 k)) j ((c j).1, notI (orI (c j).2 k) k)) := ha.upd (x := ((c j).1, notI (orI (c j).2 k) k)) (.inr ⟨by show (c j).1 ≠ 0; omega, hn7.1, hn7.2, .inl hv⟩) j
  have hc : leafy (upd (upd c j ((c j).1, orI (c j).2 k)) j (5, 0)) := ha.upd (.inr ⟨by decide, by decide, by decide, .inl (by decide)⟩) j
  refine ⟨_, _, _, mark_pos hj hk hv, by rw [unmark_pos hj hk (by rw [hca]; exact hv), hca], set_nat hj 5, ha, hb, hc, ?_, ?_, ?_, fun i hi hij q hq => ⟨?_, ?_⟩⟩
  · rw [marked_nat ha hj hk, hca]
    exact bne_iff_ne.2 (and_or_same hm hk)
  · rw [marked_nat hb hj hk, upd_same]
    simp only [hn]
    rfl
  · rw [marked_nat hc hj hk, upd_same]
    simp only [andI_zero k hk]
    rfl
  · rw [marked_nat ha hi hq, upd_other _ hij]
  · rw [marked_nat hc hi hq, upd_other _ hij, upd_other _ hij]
end Go.Proofs.Ytpoagdffpajdjaa
