/-
  The reference's readers of entries: find, Get, Marked, Next, Count, by contracts over a list of entries.
-/
import Derived.Test.YtpoagdffpajdjaaRadI
namespace Go.Proofs.Ytpoagdffpajdjaa
open Go.RowKit
set_option linter.unusedVariables false
set_option linter.unusedSimpArgs false

/-- The place of an index in entries, or -1. -/
def findP (l : List En) (i : Int) : Int := match l.findIdx? (fun e => e.1 == i) with | some k => (k : Int) | none => -1
theorem findP_at {l : List En} {i : Int} {k : Nat} {v m : Int} (h : l[k]? = some (i, v, m)) (hn : ∀ j d s c, j < k → l[j]? = some (d, s, c) → d ≠ i) : findP l i = (k : Int) := by
  unfold findP
  have : l.findIdx? (fun e => e.1 == i) = some k := by
    rw [List.findIdx?_eq_some_iff_getElem]
    have hk := (List.getElem?_eq_some_iff.1 h)
    refine ⟨hk.1, by rw [hk.2]; simp, fun j hj => ?_⟩
    have := hn j _ _ _ hj (List.getElem?_eq_getElem (by have := hk.1; omega))
    simpa using this
  rw [this]
theorem findP_no {l : List En} {i : Int} (hn : ∀ (j : Nat) d s c, l[j]? = some (d, s, c) → d ≠ i) : findP l i = -1 := by
  unfold findP
  have : l.findIdx? (fun e => e.1 == i) = none := by
    rw [List.findIdx?_eq_none_iff]
    intro x hx
    obtain ⟨j, hj⟩ := List.getElem?_of_mem hx
    obtain ⟨d, s, c⟩ := x
    have := hn j d s c hj
    simpa using this
  rw [this]
set_option maxHeartbeats 1000000 in
theorem rfind_w (l : List En) (v : Value) (S : Nat → Prop) (i : Int) (w : World) (hE : EA w S v l) : Calls Try.prog 51 #[v, .int .i64 i] w fun e w' => e = .returned (.int .i64 (findP l i)) ∧ w = w' := by
  have hE0 := hE
  obtain ⟨A, cap, rfl, hc, hm, _⟩ := hE0
  have HE := Lib.hid hE
  unfold maxLen at hm
  clear hE
  go_enter Try.func51, Try.ntmps51
  go_wp2
  go_loop [5] (fun s5 => ∃ k : Nat, k ≤ l.length ∧ s5 = .int .i64 k ∧ ∀ (j : Nat) d s c, j < k → l[j]? = some (d, s, c) → d ≠ i) (fun s5 => l.length - (intOf s5).toNat)
  case atStart => exact ⟨0, by omega, rfl, fun j d s c h => by omega⟩
  case round =>
    obtain ⟨k, hk, rfl, hn⟩ := hrel
    have HN := Lib.hid hn
    clear hn
    by_cases hlt : k < l.length
    · obtain ⟨b, o, cap', d, s, c, e0, _, _, hbl, he, c0, c1, c2⟩ := HE.out.at_ hlt
      injection e0 with e0 _ e2
      subst e0
      have hd := Lib.hid he
      have k0 : (0 : Int) ≤ (k : Int) := by omega
      have k1 : (k : Int) < (l.length : Int) := by omega
      clear he e2 c1 c2
      by_cases e : d = i
      · subst e
        have HF := Lib.hid (findP_at hd.out HN.out)
        go_wp2
        go_ret
        exact ⟨by rw [HF.out]; rfl, rfl⟩
      · have e1 : (d == i) = false := beq_eq_false_iff_ne.2 e
        have HNE := Lib.hid e
        clear e
        go_wp2
        go_round
        case rel =>
          refine ⟨k + 1, by omega, by go_num, fun j d' s' c' hj hjj => ?_⟩
          by_cases hjk : j = k
          · subst hjk
            rw [hd.out] at hjj
            injection hjj with hjj
            injection hjj with h1 _
            rw [← h1]; exact HNE.out
          · exact HN.out j d' s' c' (by omega) hjj
        case measure => simp [intOf]; omega
    · obtain rfl : k = l.length := by omega
      have HF := Lib.hid (findP_no fun j d s c hj => HN.out j d s c (List.getElem?_eq_some_iff.1 hj).1 hj)
      go_wp2
      go_ret
      exact ⟨by rw [HF.out]; rfl, rfl⟩
theorem findP_range (l : List En) (i : Int) : findP l i = -1 ∨ ∃ k : Nat, findP l i = (k : Int) ∧ k < l.length ∧ ∃ v m, l[k]? = some (i, v, m) := by
  unfold findP
  cases h : l.findIdx? (fun e => e.1 == i) with
  | none => exact .inl rfl
  | some k =>
    rw [List.findIdx?_eq_some_iff_getElem] at h
    obtain ⟨h1, h2, _⟩ := h
    refine .inr ⟨k, rfl, h1, l[k].2.1, l[k].2.2, ?_⟩
    rw [List.getElem?_eq_getElem h1, ← show l[k].1 = i by simpa using h2]
/-- What the entries say of an index. -/
def lkP (l : List En) (i : Int) : Int × Int := match l.find? (fun e => e.1 == i) with | some e => e.2 | none => (0, 0)
theorem lkP_at {l : List En} {i : Int} {k : Nat} {v m : Int} (hf : findP l i = (k : Int)) (h : l[k]? = some (i, v, m)) : lkP l i = (v, m) := by
  unfold findP at hf
  unfold lkP
  cases h1 : l.findIdx? (fun e => e.1 == i) with
  | none => rw [h1] at hf; simp at hf
  | some k' =>
    rw [h1] at hf
    obtain rfl : k' = k := by simp only at hf; omega
    rw [List.findIdx?_eq_some_iff_getElem] at h1
    obtain ⟨g1, g2, g3⟩ := h1
    have : l.find? (fun e => e.1 == i) = some l[k'] := by
      rw [List.find?_eq_some_iff_getElem]
      exact ⟨g2, k', g1, rfl, fun j hj => by have := g3 j hj; simpa using this⟩
    rw [this]
    rw [List.getElem?_eq_getElem g1] at h
    injection h with h
    simp only [h]
theorem lkP_no {l : List En} {i : Int} (hf : findP l i = -1) : lkP l i = (0, 0) := by
  unfold findP at hf
  unfold lkP
  cases h1 : l.findIdx? (fun e => e.1 == i) with
  | some k => rw [h1] at hf; simp at hf
  | none =>
    have : l.find? (fun e => e.1 == i) = none := by
      rw [List.find?_eq_none]
      rw [List.findIdx?_eq_none_iff] at h1
      intro x hx
      simpa using h1 x hx
    rw [this]
theorem mem_ents {base n : Nat} {c : Cn} {e : En} : e ∈ ents base n c ↔ ∃ j, j < n ∧ c j ≠ (0, 0) ∧ e = (((base + j : Nat) : Int), (c j).1, (c j).2) := by
  unfold ents
  rw [List.mem_filterMap]
  constructor
  · rintro ⟨j, hj, h⟩
    split at h
    · cases h
    · next hne => exact ⟨j, List.mem_range.1 hj, hne, by simpa using h.symm⟩
  · rintro ⟨j, hj, hne, rfl⟩
    exact ⟨j, List.mem_range.2 hj, by rw [if_neg hne]⟩
theorem lkP_ents {n : Nat} {c : Cn} (hz : ∀ i, n ≤ i → c i = (0, 0)) (i : Int) : lkP (ents 0 n c) i = if 0 ≤ i then c i.toNat else (0, 0) := by
  unfold lkP
  cases h : (ents 0 n c).find? (fun e => e.1 == i) with
  | some e =>
    obtain ⟨j, hj, hne, rfl⟩ := mem_ents.1 (List.mem_of_find?_eq_some h)
    have h1 := List.find?_some h
    have h2 : (((0 + j : Nat)) : Int) = i := by simpa using h1
    rw [if_pos (by omega), show i.toNat = j by omega]
  | none =>
    rw [List.find?_eq_none] at h
    by_cases h0 : 0 ≤ i
    · rw [if_pos h0]
      apply Eq.symm
      apply Classical.byContradiction
      intro hne
      rcases Nat.lt_or_ge i.toNat n with hlt | hge
      · have := h _ (mem_ents.2 ⟨i.toNat, hlt, hne, rfl⟩)
        apply this
        rw [beq_iff_eq]
        show (((0 + i.toNat : Nat)) : Int) = i
        omega
      · exact hne (hz _ hge)
    · rw [if_neg h0]
/-- Whether marks match. -/
def mkB (x m : Int) : Bool := m == 0 || (oneB m && andI x m != 0)
def tstB (fr m : Int) (e : En) : Bool := decide (fr ≤ e.1) && (decide (0 < e.2.1) && mkB e.2.2 m)
def nextP (l : List En) (fr m : Int) : Int × Bool := match l.find? (tstB fr m) with | some e => (e.1, true) | none => (0, false)
def cntB (m : Int) (e : En) : Bool := decide (0 < e.2.1) && mkB e.2.2 m
def countP (l : List En) (m : Int) : Nat := l.countP (cntB m)
theorem nextP_at {l : List En} {fr m : Int} {k : Nat} {e : En} (h : l[k]? = some e) (ht : tstB fr m e = true) (hn : ∀ j x, j < k → l[j]? = some x → tstB fr m x = false) : nextP l fr m = (e.1, true) := by
  unfold nextP
  have hk := List.getElem?_eq_some_iff.1 h
  have : l.find? (tstB fr m) = some e := by
    rw [List.find?_eq_some_iff_getElem]
    exact ⟨ht, k, hk.1, hk.2, fun j hj => by rw [hn j _ hj (List.getElem?_eq_getElem (by have := hk.1; omega))]; rfl⟩
  rw [this]
theorem nextP_no {l : List En} {fr m : Int} (hn : ∀ (j : Nat) x, l[j]? = some x → tstB fr m x = false) : nextP l fr m = (0, false) := by
  unfold nextP
  have : l.find? (tstB fr m) = none := by
    rw [List.find?_eq_none]
    intro x hx
    obtain ⟨j, hj⟩ := List.getElem?_of_mem hx
    rw [hn j x hj]
    simp
  rw [this]
def rMarkedP (l : List En) (i m : Int) : Bool := oneB m && (andI (lkP l i).2 m != 0)
theorem one_b (m : Int) (w : World) : Calls Try.prog 43 #[.int .i64 m] w fun e w' => e = .returned (.bool (oneB m)) ∧ w = w' := one_w m w
/-- The readers, once the entries of the tree are known. -/
def Ents (x : Value) (l : List En) (w : World) : Prop := ∀ w', Below w.heap.size w w' → Calls Try.prog 25 #[x] w' (RetE l w')
section
variable (hI : Int) (A : Option Addr) (n cap : Nat) (v mm : Int) (l : List En) (w : World) (hes : Ents (trV hI A n cap v mm) l w)
include hes
set_option maxRecDepth 100000
set_option maxHeartbeats 2000000
theorem rGet_w (i : Int) : Calls Try.prog 18 #[trV hI A n cap v mm, .int .i64 i] w (RetI (lkP l i).1 w) := by
  have HW := Lib.hid (bl_alloc (Below.refl w.heap.size w) (.cells #[.int .i64 hI, .slice A n cap, .int .i64 v, .int .i64 mm] 28))
  unfold Ents at hes
  go_enter Try.func18, Try.ntmps18
  go_upto_region 2 with (go_at_call 25; (with_reducible refine Calls.mono (hes _ (by (repeat (with_reducible first | assumption | exact Below.refl _ _ | refine bl_alloc ?_ _ | apply Below.drew | refine below_drewN ?_ _ | (apply bl_step2; assumption) | (refine Below.setCell ?_ (Nat.le_refl _) _) | (refine Below.setCell ?_ (by first | omega | (simp; done) | (go_simp; done)) _))))) ?_); rintro e w1 ⟨vv, rfl, hown, hb1⟩)
  have hE := EA.of_own (S := Any) hown (fun _ _ => trivial)
  have HE := Lib.hid hE
  have HW1 := Lib.hid (bl_step HW.out hb1)
  obtain ⟨A', cap', rfl, _, hm, _⟩ := hE
  have hff := fun w' (h : EA w' Any (.slice A' l.length cap') l) => rfind_w l (.slice A' l.length cap') Any i w' h
  unfold maxLen at hm
  clear hown hb1
  rcases findP_range l i with hf | ⟨k, hf, hk, vx, mx, hat⟩
  · rw [hf] at hff
    have HS := Lib.hid (lkP_no hf)
    clear hf
    go_wp2_with (go_at_call 51; (with_reducible refine Calls.mono (hff _ HE.out) ?_); rintro e w2 ⟨rfl, rfl⟩)
    go_ret
    exact ⟨by rw [HS.out]; rfl, HW1.out⟩
  · rw [hf] at hff
    have HS := Lib.hid (lkP_at hf hat)
    obtain ⟨b, o, cap'', d, s, c, e0, _, _, hbl, he, c0, c1, c2⟩ := HE.out.at_ hk
    injection e0 with e0 _ e2
    subst e0
    rw [hat] at he
    injection he with he
    injection he with h1 he
    injection he with h2 h3
    subst h2 h3
    have k0 : (0 : Int) ≤ (k : Int) := by omega
    have k1 : (k : Int) < (l.length : Int) := by omega
    clear hf hat h1 e2 c0 c2
    go_wp2_with (go_at_call 51; (with_reducible refine Calls.mono (hff _ HE.out) ?_); rintro e w2 ⟨rfl, rfl⟩)
    go_ret
    exact ⟨by rw [HS.out]; rfl, HW1.out⟩
theorem rMarked_w (i m : Int) : Calls Try.prog 20 #[trV hI A n cap v mm, .int .i64 i, .int .i64 m] w (RetB (rMarkedP l i m) w) := by
  have HW := Lib.hid (bl_alloc (Below.refl w.heap.size w) (.cells #[.int .i64 hI, .slice A n cap, .int .i64 v, .int .i64 mm] 28))
  unfold Ents at hes
  have hon := fun w => one_b m w
  go_enter Try.func20, Try.ntmps20
  go_upto_region 2 with (go_at_call 25; (with_reducible refine Calls.mono (hes _ (by (repeat (with_reducible first | assumption | exact Below.refl _ _ | refine bl_alloc ?_ _ | apply Below.drew | refine below_drewN ?_ _ | (apply bl_step2; assumption) | (refine Below.setCell ?_ (Nat.le_refl _) _) | (refine Below.setCell ?_ (by first | omega | (simp; done) | (go_simp; done)) _))))) ?_); rintro e w1 ⟨vv, rfl, hown, hb1⟩)
  have hE := EA.of_own (S := Any) hown (fun _ _ => trivial)
  have HE := Lib.hid hE
  have HW1 := Lib.hid (bl_step HW.out hb1)
  obtain ⟨A', cap', rfl, _, hm, _⟩ := hE
  have hff := fun w' (h : EA w' Any (.slice A' l.length cap') l) => rfind_w l (.slice A' l.length cap') Any i w' h
  unfold maxLen at hm
  clear hown hb1
  cases ho : oneB m with
  | false =>
    rw [ho] at hon
    have HS := Lib.hid (show rMarkedP l i m = false by unfold rMarkedP; rw [ho]; rfl)
    clear ho
    generalize findP l i = fp at hff
    go_wp2_with (first
      | (go_at_call 51; (with_reducible refine Calls.mono (hff _ HE.out) ?_); rintro e w2 ⟨rfl, rfl⟩)
      | (go_at_call 43; (with_reducible refine Calls.mono (hon _) ?_); rintro e w2 ⟨rfl, rfl⟩))
    go_ret
    exact ⟨ret_bool HS.out.symm, HW1.out⟩
  | true =>
    rw [ho] at hon
    have HO := Lib.hid ho
    rcases findP_range l i with hf | ⟨k, hf, hk, vx, mx, hat⟩
    · rw [hf] at hff
      have HS := Lib.hid (show rMarkedP l i m = false by
        unfold rMarkedP
        rw [lkP_no hf, ho]
        have : m = 1 ∨ m = 2 ∨ m = 4 := by simpa [oneB] using ho
        rcases this with rfl | rfl | rfl <;> rfl)
      clear hf ho
      go_wp2_with (first
        | (go_at_call 51; (with_reducible refine Calls.mono (hff _ HE.out) ?_); rintro e w2 ⟨rfl, rfl⟩)
        | (go_at_call 43; (with_reducible refine Calls.mono (hon _) ?_); rintro e w2 ⟨rfl, rfl⟩))
      go_ret
      exact ⟨ret_bool HS.out.symm, HW1.out⟩
    · rw [hf] at hff
      have HS := Lib.hid (show rMarkedP l i m = (andI mx m != 0) by unfold rMarkedP; rw [ho, lkP_at hf hat]; rfl)
      obtain ⟨b, o, cap'', d, s, c, e0, _, _, hbl, he, c0, c1, c2⟩ := HE.out.at_ hk
      injection e0 with e0 _ e2
      subst e0
      rw [hat] at he
      injection he with he
      injection he with h1 he
      injection he with h2 h3
      subst h2 h3
      have k0 : (0 : Int) ≤ (k : Int) := by omega
      have k1 : (k : Int) < (l.length : Int) := by omega
      clear hf hat h1 e2 c0 c1 ho
      go_wp2_with (first
        | (go_at_call 51; (with_reducible refine Calls.mono (hff _ HE.out) ?_); rintro e w2 ⟨rfl, rfl⟩)
        | (go_at_call 43; (with_reducible refine Calls.mono (hon _) ?_); rintro e w2 ⟨rfl, rfl⟩))
      go_ret
      exact ⟨ret_bool HS.out.symm, HW1.out⟩
end

end Go.Proofs.Ytpoagdffpajdjaa
