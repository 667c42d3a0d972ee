/-
  Sizes, powers, marks, heights; high and Valid, by contracts.
-/
import Derived.Test.YtpoagdffpajdjaaRad3
namespace Go.Proofs.Ytpoagdffpajdjaa
open Go.RowKit
set_option linter.unusedVariables false
set_option linter.unusedSimpArgs false

/-- A tree's value as it stands in a slot. -/
abbrev trV (h : Int) (A : Option Addr) (n cap : Nat) (v m : Int) : Value := .agg #[.int .i64 h, .slice A n cap, .int .i64 v, .int .i64 m]
set_option maxRecDepth 100000 in
set_option maxHeartbeats 2000000 in
theorem size_w (h : Nat) (A : Option Addr) (n cap : Nat) (v m : Int) (w : World) (hh : h ≤ 4) : Calls Try.prog 42 #[trV h A n cap v m] w (RetI ((4 ^ h : Nat) : Int) w) := by
  have HB := Lib.hid (fun o : Obj => (Below.refl w.heap.size w).alloc (Nat.le_refl _) o)
  match h, hh with
  | 0, _ =>
    go_enter Try.func42, Try.ntmps42
    go_wp2
    go_ret
    exact ⟨rfl, HB.out _⟩
  | 1, _ =>
    go_enter Try.func42, Try.ntmps42
    go_wp2
    go_ret
    exact ⟨rfl, HB.out _⟩
  | 2, _ =>
    go_enter Try.func42, Try.ntmps42
    go_wp2
    go_ret
    exact ⟨rfl, HB.out _⟩
  | 3, _ =>
    go_enter Try.func42, Try.ntmps42
    go_wp2
    go_ret
    exact ⟨rfl, HB.out _⟩
  | 4, _ =>
    go_enter Try.func42, Try.ntmps42
    go_wp2
    go_ret
    exact ⟨rfl, HB.out _⟩
  | h + 5, hh => omega
/-- One of the three marks. -/
def oneB (m : Int) : Bool := decide (m = 1 ∨ m = 2 ∨ m = 4)
theorem mark_w (m : Int) (w : World) : Calls Try.prog 40 #[.int .i64 m] w fun e w' => e = .returned (.bool (oneB m)) ∧ w = w' := by
    by_cases h1 : m = 1
    · subst h1
      go_enter Try.func40, Try.ntmps40
      go_wp2
      go_ret
      exact ⟨rfl, rfl⟩
    · have e1 : (m == 1) = false := beq_eq_false_iff_ne.2 h1
      by_cases h2 : m = 2
      · subst h2
        go_enter Try.func40, Try.ntmps40
        go_wp2
        go_ret
        exact ⟨rfl, rfl⟩
      · have e2 : (m == 2) = false := beq_eq_false_iff_ne.2 h2
        by_cases h4 : m = 4
        · subst h4
          go_enter Try.func40, Try.ntmps40
          go_wp2
          go_ret
          exact ⟨rfl, rfl⟩
        · have e4 : (m == 4) = false := beq_eq_false_iff_ne.2 h4
          have HR := Lib.hid (show oneB m = false from decide_eq_false (by omega))
          go_enter Try.func40, Try.ntmps40
          go_wp2
          go_ret
          exact ⟨ret_bool HR.out.symm, rfl⟩
theorem one_w (m : Int) (w : World) : Calls Try.prog 43 #[.int .i64 m] w fun e w' => e = .returned (.bool (oneB m)) ∧ w = w' := by
    by_cases h1 : m = 1
    · subst h1
      go_enter Try.func43, Try.ntmps43
      go_wp2
      go_ret
      exact ⟨rfl, rfl⟩
    · have e1 : (m == 1) = false := beq_eq_false_iff_ne.2 h1
      by_cases h2 : m = 2
      · subst h2
        go_enter Try.func43, Try.ntmps43
        go_wp2
        go_ret
        exact ⟨rfl, rfl⟩
      · have e2 : (m == 2) = false := beq_eq_false_iff_ne.2 h2
        by_cases h4 : m = 4
        · subst h4
          go_enter Try.func43, Try.ntmps43
          go_wp2
          go_ret
          exact ⟨rfl, rfl⟩
        · have e4 : (m == 4) = false := beq_eq_false_iff_ne.2 h4
          have HR := Lib.hid (show oneB m = false from decide_eq_false (by omega))
          go_enter Try.func43, Try.ntmps43
          go_wp2
          go_ret
          exact ⟨ret_bool HR.out.symm, rfl⟩
theorem power_w (h : Nat) (w : World) (hh : h ≤ 4) : Calls Try.prog 61 #[.int .i64 h] w fun e w' => e = .returned (.int .i64 ((4 ^ h : Nat) : Int)) ∧ w = w' := by
  go_enter Try.func61, Try.ntmps61
  go_wp2
  go_loopw [3, 4] (fun s3 s4 wx => ∃ k : Nat, k ≤ h ∧ s4 = .int .i64 k ∧ s3 = .int .i64 ((4 ^ k : Nat) : Int) ∧ w = wx) (fun _ s4 _ => h - (intOf s4).toNat)
  case atStart => exact ⟨0, by omega, rfl, rfl, by first | rfl | trivial⟩
  case round =>
    obtain ⟨k, hk, rfl, rfl, rfl⟩ := hrel
    have HP := Lib.hid (show ((4 ^ (k + 1) : Nat) : Int) = ((4 ^ k : Nat) : Int) * 4 by rw [Nat.pow_succ]; omega)
    have hpk : 4 ^ k ≤ 4 ^ 4 := Nat.pow_le_pow_right (by omega) (by omega)
    obtain ⟨p, hp⟩ : ∃ p, 4 ^ k = p := ⟨_, rfl⟩
    rw [hp] at HP hpk ⊢
    have Hp := Lib.hid hp
    clear hp
    by_cases hlt : k < h
    · have k1 : (k : Int) < (h : Int) := by omega
      have wp := w64 (x := (p : Int) * 4) (by omega)
      go_wp2
      go_roundw
      case rel => exact ⟨k + 1, by omega, by go_num, by rw [HP.out], by first | rfl | trivial⟩
      case measure => simp [intOf]; omega
    · obtain rfl : k = h := by omega
      go_wp2
      go_ret
      exact ⟨by rw [Hp.out]; rfl, rfl⟩
theorem heightFor_w (i : Nat) (w : World) (hi : i < 256) : Calls Try.prog 48 #[.int .i64 i] w fun e w' => e = .returned (.int .i64 (hf i)) ∧ w = w' := by
  have hp0 := power_w 0
  have hp1 := power_w 1
  have hp2 := power_w 2
  have hp3 := power_w 3
  have hp4 := power_w 4
  have hfv : (i < 1 ∧ hf i = 0) ∨ (1 ≤ i ∧ i < 4 ∧ hf i = 1) ∨ (4 ≤ i ∧ i < 16 ∧ hf i = 2) ∨ (16 ≤ i ∧ i < 64 ∧ hf i = 3) ∨ (64 ≤ i ∧ hf i = 4) := by unfold hf; (repeat' split) <;> omega
  go_enter Try.func48, Try.ntmps48
  go_wp2
  go_loopw [3] (fun s3 wx => ∃ k : Nat, k ≤ hf i ∧ s3 = .int .i64 k ∧ w = wx) (fun s3 _ => hf i - (intOf s3).toNat)
  case atStart => exact ⟨0, by omega, rfl, by first | rfl | trivial⟩
  case round =>
    obtain ⟨k, hk, rfl, rfl⟩ := hrel
    have hk4 : k ≤ 4 := by omega
    have hpw := power_w k w hk4
    have hcmp : (k < hf i → 4 ^ k ≤ i) ∧ (k = hf i → i < 4 ^ k) := by
      match k, hk4 with
      | 0, _ => omega
      | 1, _ => omega
      | 2, _ => omega
      | 3, _ => omega
      | 4, _ => omega
      | k + 5, h => omega
    generalize 4 ^ k = p at hpw hcmp
    clear hp0 hp1 hp2 hp3 hp4 hfv
    by_cases hlt : k < hf i
    · have k1 : (p : Int) ≤ (i : Int) := by have := hcmp.1 hlt; omega
      clear hcmp
      go_wp2_with (go_at_call 61; (with_reducible refine Calls.mono hpw ?_); rintro e w1 ⟨rfl, rfl⟩)
      go_roundw
      case rel => exact ⟨k + 1, by omega, by go_num, by first | rfl | trivial⟩
      case measure => simp [intOf]; omega
    · obtain rfl : k = hf i := by omega
      have k1 : ¬ (p : Int) ≤ (i : Int) := by have := hcmp.2 rfl; omega
      clear hcmp
      go_wp2_with (go_at_call 61; (with_reducible refine Calls.mono hpw ?_); rintro e w1 ⟨rfl, rfl⟩)
      go_ret
      exact ⟨rfl, rfl⟩

theorem high_found {t k : T} {i : Nat} (h : t.kids[i]? = some k) (hi : 1 ≤ i) (he : k.emB = false) : highT t = true := by
  unfold highT someK
  rw [List.any_eq_true]
  refine ⟨k, List.mem_of_getElem? (i := i - 1) ?_, by rw [he]; rfl⟩
  rw [List.getElem?_drop, show 1 + (i - 1) = i by omega]
  exact h
theorem high_none {t : T} (h : ∀ i k, 1 ≤ i → t.kids[i]? = some k → k.emB = true) : highT t = false := by
  unfold highT someK
  rw [List.any_eq_false]
  intro k hk
  obtain ⟨i, hi⟩ := List.getElem?_of_mem hk
  rw [List.getElem?_drop] at hi
  rw [h _ k (by omega) hi]
  simp
set_option maxRecDepth 100000 in
set_option maxHeartbeats 2000000 in
theorem high_w (t : T) (A : Option Addr) (cap : Nat) (S : Nat → Prop) (w : World) (hm : t.kids.length ≤ maxLen) (hcap : t.kids.length ≤ cap) (hk : NK w S A t.kids) : Calls Try.prog 45 #[ndV A t.kids.length cap t.val t.marks] w (RetB (highT t) w) := by
  unfold maxLen at hm
  have HB := Lib.hid ((Below.refl w.heap.size w).alloc (Nat.le_refl _) (.cells #[.slice A t.kids.length cap, .int .i64 t.val, .int .i64 t.marks] 26))
  have HX := Lib.hid (heap_alloc_at w (.cells #[.slice A t.kids.length cap, .int .i64 t.val, .int .i64 t.marks] 26))
  have HK := Lib.hid (fun w' (hb : Below w.heap.size w w') => hk.step hb)
  have HF := Lib.hid (fun i k (h : t.kids[i]? = some k) => high_found h)
  have HN := Lib.hid (high_none (t := t))
  clear hk
  generalize t.marks = m at HX HB ⊢
  generalize t.val = v at HX HB ⊢
  generalize highT t = y at HF HN ⊢
  generalize t.kids = ks at *
  obtain ⟨b1, hb1e⟩ : ∃ b, b = w.heap.size := ⟨_, rfl⟩
  rw [← hb1e] at HX
  have HBe := Lib.hid hb1e
  clear hb1e
  go_enter Try.func45, Try.ntmps45
  go_upto_region 0 with fail
  go_cut [1] (fun s1 wx => s1 = .pointer (some ⟨b1, 0, none⟩) ∧ wx.heap[b1]? = some (.cells #[.slice A ks.length cap, .int .i64 v, .int .i64 m] 26 (0, 0)) ∧ Below w.heap.size w wx)
  case first =>
    go_wp2
    go_meet
    case rel => exact ⟨by rw [HBe.out], HX.out, HB.out⟩
  case rest =>
    clear HX HB
    obtain ⟨rfl, hX, hW⟩ := hcut
    have HX := Lib.hid hX
    have HW := Lib.hid hW
    clear hX hW
    go_wp2
    go_loopw [3] (fun s3 wx => ∃ i : Nat, 1 ≤ i ∧ (i ≤ ks.length ∨ i = 1) ∧ s3 = .int .i64 i ∧ (∀ j k, 1 ≤ j → j < i → ks[j]? = some k → k.emB = true) ∧ wx.heap[b1]? = some (.cells #[.slice A ks.length cap, .int .i64 v, .int .i64 m] 26 (0, 0)) ∧ Below w.heap.size w wx) (fun s3 _ => ks.length - (intOf s3).toNat)
    case atStart => exact ⟨1, by omega, .inr rfl, rfl, fun j k h1 h2 => by omega, HX.out, HW.out⟩
    case round =>
      clear HX HW
      obtain ⟨i, hi1, hi2, rfl, hall, hX, hW⟩ := hrel
      have HX := Lib.hid hX
      have HW := Lib.hid hW
      have HA := Lib.hid hall
      clear hX hW hall
      have x0 := cells_at HX.out 0; have x1 := cells_at HX.out 1; have x2 := cells_at HX.out 2; simp only [List.getElem?_toArray, List.getElem?_cons_zero, List.getElem?_cons_succ] at x0 x1 x2
      by_cases hlt : i < ks.length
      · have hNK := HK.out _ HW.out
        obtain ⟨b, o, k, A', cap', rfl, _, hbl, hi, hNC, hkm, hkc, hkk⟩ := hNK.at_ hlt
        obtain ⟨c0, c1, c2⟩ := hNC
        have HI := Lib.hid hi
        have emk := fun w => empty_w A' k.kids.length cap' k.val k.marks w
        rw [show emI k.kids.length k.val k.marks = k.emB from rfl] at emk
        have i0 : (0 : Int) ≤ (i : Int) := by omega
        have i1 : (i : Int) < (ks.length : Int) := by omega
        have i2 : (i : Int) < (cap : Int) := by omega
        have i3 : (i : Int) ≤ (cap : Int) := by omega
        generalize k.kids.length = kn at emk c0 hkm hkc
        generalize k.marks = km at emk c2
        generalize k.val = kv at emk c1
        clear hNK hi hkk
        cases hek : k.emB with
        | false =>
          have HR := Lib.hid (HF.out i k HI.out hi1 hek)
          rw [hek] at emk
          clear hek
          go_wp2_with (go_at_call 59; (with_reducible refine Calls.mono (emk _) ?_); rintro e w1 ⟨rfl, hb1⟩)
          go_ret
          exact ⟨ret_bool HR.out.symm, bl_step HW.out hb1⟩
        | true =>
          have HEK := Lib.hid hek
          rw [hek] at emk
          clear hek
          go_wp2_with (go_at_call 59; (with_reducible refine Calls.mono (emk _) ?_); rintro e w1 ⟨rfl, hb1⟩)
          go_roundw
          case rel =>
            refine ⟨i + 1, by omega, .inl (by omega), by go_num, fun j x h1 h2 h3 => ?_, bk_step HX.out hb1, bl_step HW.out hb1⟩
            by_cases hj : j = i
            · subst hj
              have := HI.out
              rw [this] at h3
              injection h3 with h3
              rw [← h3]; exact HEK.out
            · exact HA.out j x h1 (by omega) h3
          case measure => simp [intOf]; omega
      · have HR := Lib.hid (HN.out fun j k h1 h2 => HA.out j k h1 (by have := (List.getElem?_eq_some_iff.1 h2).1; omega) h2)
        have i1 : ¬ (i : Int) < (ks.length : Int) := by omega
        go_wp2
        go_ret
        exact ⟨ret_bool HR.out.symm, HW.out⟩

end Go.Proofs.Ytpoagdffpajdjaa
