/-
  slices.IndexFunc and slices.ContainsFunc at the closures of package volume, by contracts.
-/
import Derived.Test.YtdeggdbaeeamiaaVol1
namespace Go.Proofs.Ytdeggdbaeeamiaa
open Go.RowKit
set_option linter.unusedVariables false
set_option linter.unusedSimpArgs false

theorem idxF_none {p : Seg → Bool} : ∀ {L : List Seg} {k : Nat}, (∀ (i : Nat) (x : Seg), L[i]? = some x → p x = false) → idxF p L k = -1
  | [], _, _ => rfl
  | x :: l, k, h => by
    have h0 := h 0 x rfl
    simp only [idxF, h0]
    exact idxF_none fun i y hy => h (i + 1) y (by simpa using hy)
theorem idxF_some {p : Seg → Bool} : ∀ {L : List Seg} {k j : Nat} {x : Seg}, (∀ (i : Nat) (y : Seg), i < j → L[i]? = some y → p y = false) → L[j]? = some x → p x = true → idxF p L k = ((k + j : Nat) : Int)
  | [], _, _, _, _, hx, _ => by simp at hx
  | y :: l, k, 0, x, h, hx, hp => by
    obtain rfl : y = x := by simpa using hx
    simp [idxF, hp]
  | y :: l, k, j + 1, x, h, hx, hp => by
    have h0 := h 0 y (by omega) rfl
    simp only [idxF, h0]
    rw [show k + (j + 1) = (k + 1) + j from by omega]
    exact idxF_some (fun i z hi hz => h (i + 1) z (by omega) (by simpa using hz)) (by simpa using hx) hp
theorem idxF_any (p : Seg → Bool) : ∀ (L : List Seg) (k : Nat), decide (0 ≤ idxF p L k) = L.any p
  | [], k => by simp [idxF]
  | x :: l, k => by
    by_cases h : p x = true
    · simp [idxF, h]
    · rw [show idxF p (x :: l) k = idxF p l (k + 1) from by simp [idxF, h], idxF_any p l (k + 1)]
      simp [h]

set_option maxHeartbeats 1000000 in
theorem index1_w (p : Seg → Bool) (A : Option Addr) (L : List Seg) (cap : Nat) (w : World) (h : PA w A L) (hl : L.length ≤ maxLen)
    (hg : ∀ x ∈ L, ∀ w', Below w.heap.size w w' → Calls Try.prog 37 #[segV x] w' (RetB (p x) w')) :
    Calls Try.prog 40 #[.slice A L.length cap, .func (.func 37) #[] #[]] w (RetI (idxF p L 0) w) := by
  unfold maxLen at hl
  go_enter Try.func40, Try.ntmps40
  go_wp2
  go_loopw [8] (fun i wx => ∃ k : Nat, k ≤ L.length ∧ i = .int .i64 k ∧ (∀ (i : Nat) (y : Seg), i < k → L[i]? = some y → p y = false) ∧ Below w.heap.size w wx) (fun i _ => L.length - (intOf i).toNat)
  case atStart => exact ⟨0, by omega, rfl, fun i y hi => by omega, Below.refl _ _⟩
  case round =>
    obtain ⟨k, hk, rfl, hno, hB⟩ := hrel
    have Hno := Lib.hid hno
    clear hno
    by_cases hlt : k < L.length
    · obtain ⟨b, o, d, s, c, rfl, hb, he, c0, c1, c2⟩ := (h.step hB).at_ hlt
      have hc := hg (d, s, c) (List.mem_of_getElem? he) _ hB
      have He := Lib.hid he
      clear he
      cases hp : p (d, s, c) with
      | true =>
        rw [hp] at hc
        have Hp := Lib.hid hp
        clear hp hg
        go_wp2_with (go_at_call 37; (with_reducible refine Calls.mono hc ?_); rintro e w1 ⟨rfl, hb1⟩)
        go_ret
        exact ⟨ret_int (by rw [idxF_some Hno.out He.out Hp.out]; simp), bl_step hB hb1⟩
      | false =>
        rw [hp] at hc
        have Hp := Lib.hid hp
        clear hp hg
        go_wp2_with (go_at_call 37; (with_reducible refine Calls.mono hc ?_); rintro e w1 ⟨rfl, hb1⟩)
        go_roundw
        case rel => exact ⟨k + 1, by omega, by go_num, fun i y hi hy => by
          by_cases hik : i < k
          · exact Hno.out i y hik hy
          · obtain rfl : i = k := by omega
            rw [He.out] at hy
            injection hy with hy
            rw [← hy]; exact Hp.out, bl_step hB hb1⟩
        case measure => simp [intOf]; omega
    · obtain rfl : k = L.length := by omega
      clear hg
      go_wp2
      go_ret
      exact ⟨ret_int (by rw [idxF_none (fun i x hx => Hno.out i x (List.getElem?_eq_some_iff.1 hx).1 hx)]), hB⟩
theorem contains1_w (p : Seg → Bool) (A : Option Addr) (L : List Seg) (cap : Nat) (w : World) (h : PA w A L) (hl : L.length ≤ maxLen)
    (hg : ∀ x ∈ L, ∀ w', Below w.heap.size w w' → Calls Try.prog 37 #[segV x] w' (RetB (p x) w')) :
    Calls Try.prog 33 #[.slice A L.length cap, .func (.func 37) #[] #[]] w (RetB (L.any p) w) := by
  have hi := index1_w p  A L cap w h hl hg
  have HA := Lib.hid (idxF_any p L 0)
  generalize idxF p L 0 = n at hi HA
  clear hg
  go_enter Try.func33, Try.ntmps33
  go_wp2_with (go_at_call 40; (with_reducible refine Calls.mono hi ?_); rintro e w1 ⟨rfl, hb1⟩)
  go_ret
  exact ⟨ret_bool HA.out, hb1⟩
set_option maxHeartbeats 1000000 in
theorem index2_w (p : Seg → Bool) (q : Value)(A : Option Addr) (L : List Seg) (cap : Nat) (w : World) (h : PA w A L) (hl : L.length ≤ maxLen)
    (hg : ∀ x ∈ L, ∀ w', Below w.heap.size w w' → Calls Try.prog 34 #[segV x, q] w' (RetB (p x) w')) :
    Calls Try.prog 40 #[.slice A L.length cap, .func (.func 34) #[] #[q]] w (RetI (idxF p L 0) w) := by
  unfold maxLen at hl
  go_enter Try.func40, Try.ntmps40
  go_wp2
  go_loopw [8] (fun i wx => ∃ k : Nat, k ≤ L.length ∧ i = .int .i64 k ∧ (∀ (i : Nat) (y : Seg), i < k → L[i]? = some y → p y = false) ∧ Below w.heap.size w wx) (fun i _ => L.length - (intOf i).toNat)
  case atStart => exact ⟨0, by omega, rfl, fun i y hi => by omega, Below.refl _ _⟩
  case round =>
    obtain ⟨k, hk, rfl, hno, hB⟩ := hrel
    have Hno := Lib.hid hno
    clear hno
    by_cases hlt : k < L.length
    · obtain ⟨b, o, d, s, c, rfl, hb, he, c0, c1, c2⟩ := (h.step hB).at_ hlt
      have hc := hg (d, s, c) (List.mem_of_getElem? he) _ hB
      have He := Lib.hid he
      clear he
      cases hp : p (d, s, c) with
      | true =>
        rw [hp] at hc
        have Hp := Lib.hid hp
        clear hp hg
        go_wp2_with (go_at_call 34; (with_reducible refine Calls.mono hc ?_); rintro e w1 ⟨rfl, hb1⟩)
        go_ret
        exact ⟨ret_int (by rw [idxF_some Hno.out He.out Hp.out]; simp), bl_step hB hb1⟩
      | false =>
        rw [hp] at hc
        have Hp := Lib.hid hp
        clear hp hg
        go_wp2_with (go_at_call 34; (with_reducible refine Calls.mono hc ?_); rintro e w1 ⟨rfl, hb1⟩)
        go_roundw
        case rel => exact ⟨k + 1, by omega, by go_num, fun i y hi hy => by
          by_cases hik : i < k
          · exact Hno.out i y hik hy
          · obtain rfl : i = k := by omega
            rw [He.out] at hy
            injection hy with hy
            rw [← hy]; exact Hp.out, bl_step hB hb1⟩
        case measure => simp [intOf]; omega
    · obtain rfl : k = L.length := by omega
      clear hg
      go_wp2
      go_ret
      exact ⟨ret_int (by rw [idxF_none (fun i x hx => Hno.out i x (List.getElem?_eq_some_iff.1 hx).1 hx)]), hB⟩
theorem contains2_w (p : Seg → Bool) (q : Value)(A : Option Addr) (L : List Seg) (cap : Nat) (w : World) (h : PA w A L) (hl : L.length ≤ maxLen)
    (hg : ∀ x ∈ L, ∀ w', Below w.heap.size w w' → Calls Try.prog 34 #[segV x, q] w' (RetB (p x) w')) :
    Calls Try.prog 33 #[.slice A L.length cap, .func (.func 34) #[] #[q]] w (RetB (L.any p) w) := by
  have hi := index2_w p q A L cap w h hl hg
  have HA := Lib.hid (idxF_any p L 0)
  generalize idxF p L 0 = n at hi HA
  clear hg
  go_enter Try.func33, Try.ntmps33
  go_wp2_with (go_at_call 40; (with_reducible refine Calls.mono hi ?_); rintro e w1 ⟨rfl, hb1⟩)
  go_ret
  exact ⟨ret_bool HA.out, hb1⟩

end Go.Proofs.Ytdeggdbaeeamiaa
