/-
  The law LayoutCovers in plain Lean: the sectors of runs and of their pieces.
-/
import Derived.Test.YtjnaphhbkbigcaaLayE
namespace Go.Proofs.Ytjnaphhbkbigcaa
open Go.RowKit
set_option linter.unusedVariables false
set_option linter.unusedSimpArgs false

/-- The sectors of a span. -/
def secOf (x : Sp) : List Int := (List.range x.2.toNat).map (fun j : Nat => x.1 + j)
def secs (L : List Sp) : List Int := L.flatMap secOf
/-- How many sectors the first i spans have. -/
def secPos (L : List Sp) (i : Nat) : Nat := (secs (L.take i)).length
theorem secs_append (a b : List Sp) : secs (a ++ b) = secs a ++ secs b := by simp [secs]
theorem secOf_len (x : Sp) : (secOf x).length = x.2.toNat := by simp [secOf]
theorem secs_take {L : List Sp} {i : Nat} {x : Sp} (h : L[i]? = some x) : secs (L.take (i + 1)) = secs (L.take i) ++ secOf x := by
  rw [List.take_add_one, h, Option.toList_some, secs_append]
  simp [secs]
theorem secPos_succ {L : List Sp} {i : Nat} {x : Sp} (h : L[i]? = some x) : secPos L (i + 1) = secPos L i + x.2.toNat := by
  unfold secPos
  rw [secs_take h, List.length_append, secOf_len]
theorem secPos_zero (L : List Sp) : secPos L 0 = 0 := by simp [secPos, secs]
theorem secPos_all (L : List Sp) : secPos L L.length = (secs L).length := by simp [secPos]
theorem secs_at {L : List Sp} {i k : Nat} {x : Sp} (h : L[i]? = some x) (hk : k < x.2.toNat) : (secs L)[secPos L i + k]? = some (x.1 + k) := by
  have e : secs L = secs (L.take i) ++ (secOf x ++ secs (L.drop (i + 1))) := by
    rw [← List.append_assoc, ← secs_take h, ← secs_append, List.take_append_drop]
  rw [e]
  unfold secPos
  rw [List.getElem?_append_right (by omega), Nat.add_sub_cancel_left, List.getElem?_append_left (by rw [secOf_len]; exact hk)]
  simp [secOf, List.getElem?_map, List.getElem?_range hk]
/-- Every span has a sector, no more than m, and lies within the disk. -/
def SpIn (m : Int) (L : List Sp) : Prop := ∀ x ∈ L, 1 ≤ x.2 ∧ x.2 ≤ m ∧ 0 ≤ x.1 ∧ x.1 + x.2 ≤ 128
def pgTwo (s : Int) (p : Int) : List Int := [pgP s p, pgP s p + 1]
theorem secOf_two (x : Int) : secOf (x, 2) = [x, x + 1] := by
  simp [secOf, List.range_succ]
theorem secOf_more {a n : Int} (h : 0 ≤ n) : secOf (a, n + 2) = secOf (a, n) ++ [a + n, a + n + 1] := by
  unfold secOf
  simp only
  rw [show (n + 2).toNat = n.toNat + 1 + 1 by omega, List.range_succ, List.range_succ]
  simp only [List.map_append, List.map_cons, List.map_nil, List.append_assoc, List.cons_append, List.nil_append]
  rw [show a + ((n.toNat : Nat) : Int) = a + n by omega, show a + ((n.toNat + 1 : Nat) : Int) = a + n + 1 by omega]
theorem stepR_secs {s m : Int} (hs : 0 ≤ s ∧ s < 7) (hm : 2 ≤ m) : ∀ (l : List Int) (acc : List Sp), (∀ x ∈ l, 0 ≤ x ∧ x < 8) → SpIn m acc →
    SpIn m (l.foldl (stepR s m) acc) ∧ secs (l.foldl (stepR s m) acc) = secs acc ++ l.flatMap (pgTwo s)
  | [], acc, _, h => ⟨h, by simp⟩
  | p :: l, acc, hl, h => by
    have hp := hl p (by simp)
    have pp := pg_in hs hp
    have key : SpIn m (stepR s m acc p) ∧ secs (stepR s m acc p) = secs acc ++ pgTwo s p := by
      have new : ∀ acc : List Sp, SpIn m acc → SpIn m (acc ++ [(pgP s p, 2)]) ∧ secs (acc ++ [(pgP s p, 2)]) = secs acc ++ pgTwo s p := fun acc h => by
        constructor
        · intro x hx
          rcases List.mem_append.1 hx with hx | hx
          · exact h x hx
          · simp only [List.mem_singleton] at hx
            subst hx
            exact ⟨by simp, hm, by simp only; omega, by simp only; omega⟩
        · rw [secs_append]
          congr 1
          show secOf _ ++ [] = _
          rw [List.append_nil, secOf_two]
          rfl
      rcases List.eq_nil_or_concat acc with rfl | ⟨pre, ⟨a, n⟩, he⟩
      · exact new [] h
      · rw [List.concat_eq_append] at he
        subst he
        rw [stepR_snoc]
        by_cases c : a + n = pgP s p ∧ n + 2 ≤ m
        · rw [if_pos c]
          have ha := h (a, n) (by simp)
          simp only at ha
          constructor
          · intro x hx
            rcases List.mem_append.1 hx with hx | hx
            · exact h x (List.mem_append_left _ hx)
            · simp only [List.mem_singleton] at hx
              subst hx
              exact ⟨by simp only; omega, c.2, by simp only; omega, by simp only; omega⟩
          · rw [secs_append, secs_append, List.append_assoc]
            congr 1
            show secOf _ ++ [] = (secOf _ ++ []) ++ _
            rw [List.append_nil, List.append_nil, secOf_more (by omega), c.1]
            rfl
        · rw [if_neg c]
          exact new _ h
    rw [List.foldl_cons, List.flatMap_cons, ← List.append_assoc, ← key.2]
    exact stepR_secs hs hm l _ (fun x hx => hl x (List.mem_cons_of_mem _ hx)) key.1
theorem runs_secs {s most : Int} (hs : 0 ≤ s ∧ s < 7) (hm : 2 ≤ most) (pages : List Int) : SpIn most (runsP s pages most) ∧ secs (runsP s pages most) = (psP pages).flatMap (pgTwo s) := by
  rw [← runs_eq hs hm]
  obtain ⟨h1, h2⟩ := stepR_secs hs (m := most / 2 * 2) (by omega) (psP pages) [] ps_range (fun x hx => by simp at hx)
  exact ⟨fun x hx => by have := h1 x hx; omega, by rw [h2]; rfl⟩
theorem secOf_cut {m : Int} (hm : 1 ≤ m) : ∀ (f : Nat) (a c : Int), c.toNat ≤ f → secs (cutP m f a c) = secOf (a, c)
  | 0, a, c, h => by
    simp only [cutP, secs, List.flatMap_nil, secOf]
    rw [show c.toNat = 0 by omega]
    rfl
  | f + 1, a, c, h => by
    simp only [cutP]
    by_cases hc : 0 < c
    · rw [if_pos hc]
      have ih := secOf_cut hm f (a + min c m) (c - min c m) (by omega)
      show secOf _ ++ secs _ = _
      rw [ih]
      unfold secOf
      simp only
      rw [show c.toNat = (min c m).toNat + (c - min c m).toNat by omega, List.range_add, List.map_append]
      congr 1
      · rw [List.map_map]
        refine List.map_congr_left fun j hj => ?_
        simp only [Function.comp]
        omega
    · rw [if_neg hc]
      simp only [secs, List.flatMap_nil, secOf]
      rw [show c.toNat = 0 by omega]
      rfl
theorem cut_in {m : Int} (hm : 1 ≤ m) : ∀ (f : Nat) (a c : Int), 0 ≤ a → a + c ≤ 128 → SpIn m (cutP m f a c)
  | 0, a, c, _, _ => fun x hx => by simp [cutP] at hx
  | f + 1, a, c, h1, h2 => by
    simp only [cutP]
    by_cases hc : 0 < c
    · rw [if_pos hc]
      intro x hx
      rcases List.mem_cons.1 hx with rfl | hx
      · exact ⟨by simp only; omega, by simp only; omega, h1, by simp only; omega⟩
      · exact cut_in hm f _ _ (by omega) (by omega) x hx
    · rw [if_neg hc]
      intro x hx
      simp at hx
theorem split_secs {m mr : Int} (hm : 1 ≤ m) : ∀ {L : List Sp}, SpIn mr L → SpIn m (splitP m L) ∧ secs (splitP m L) = secs L
  | [], _ => ⟨fun x hx => by simp [splitP] at hx, rfl⟩
  | (a, c) :: L, h => by
    have hx := h (a, c) (by simp)
    simp only at hx
    obtain ⟨h1, h2⟩ := split_secs hm (L := L) (fun x hx => h x (List.mem_cons_of_mem _ hx))
    have e : pieceP m (a, c) = cutP m c.toNat a c := by
      unfold pieceP
      rw [if_neg]
      simp [outB]
      omega
    have e2 : splitP m ((a, c) :: L) = cutP m c.toNat a c ++ splitP m L := by
      unfold splitP
      rw [List.flatMap_cons, e]
    rw [e2, secs_append, h2, secOf_cut hm _ _ _ (Nat.le_refl _)]
    refine ⟨fun x hx' => ?_, rfl⟩
    rcases List.mem_append.1 hx' with hx' | hx'
    · exact cut_in hm _ _ _ (by omega) (by omega) x hx'
    · exact h1 x hx'
/-- The keys that the law's map bears. -/
def keysP (s : Int) (pages : List Int) : List Int := pages.foldl (fun K p => addK (addK K (pgP s p)) (pgP s p + 1)) []
theorem keysP_take {s : Int} {pages : List Int} {i : Nat} {p : Int} (h : pages[i]? = some p) : keysP s (pages.take (i + 1)) = addK (addK (keysP s (pages.take i)) (pgP s p)) (pgP s p + 1) := by
  unfold keysP
  rw [List.take_add_one, h, Option.toList_some, List.foldl_append]
  rfl
theorem addK_mem {K : List Int} {x y : Int} : y ∈ addK K x ↔ y ∈ K ∨ y = x := by
  unfold addK
  by_cases h : x ∈ K
  · rw [if_pos h]
    constructor
    · exact fun h => .inl h
    · rintro (h' | rfl)
      · exact h'
      · exact h
  · rw [if_neg h]
    simp
theorem addK_nodup {K : List Int} {x : Int} (h : K.Nodup) : (addK K x).Nodup := by
  unfold addK
  by_cases hx : x ∈ K
  · rw [if_pos hx]; exact h
  · rw [if_neg hx, List.nodup_append]
    refine ⟨h, by simp, fun a ha b hb => ?_⟩
    simp only [List.mem_singleton] at hb
    rintro rfl
    exact hx (hb ▸ ha)
theorem keys_fold {s : Int} : ∀ (l K : List Int), K.Nodup → (l.foldl (fun K p => addK (addK K (pgP s p)) (pgP s p + 1)) K).Nodup ∧ ∀ x, x ∈ l.foldl (fun K p => addK (addK K (pgP s p)) (pgP s p + 1)) K ↔ x ∈ K ∨ x ∈ l.flatMap (pgTwo s)
  | [], K, h => ⟨h, fun x => by simp⟩
  | p :: l, K, h => by
    obtain ⟨h1, h2⟩ := keys_fold (s := s) l _ (addK_nodup (x := pgP s p + 1) (addK_nodup (x := pgP s p) h))
    refine ⟨h1, fun x => ?_⟩
    rw [List.foldl_cons, h2, addK_mem, addK_mem, List.flatMap_cons, List.mem_append]
    simp only [pgTwo, List.mem_cons, List.not_mem_nil, or_false]
    grind
theorem keys_secs {s : Int} (hs : 0 ≤ s ∧ s < 7) {pages : List Int} (hp : ∀ z ∈ pages, 0 ≤ z ∧ z < 8) :
    ((psP pages).flatMap (pgTwo s)).Pairwise (· < ·) ∧ (keysP s pages).length = ((psP pages).flatMap (pgTwo s)).length ∧ ∀ x, x ∈ keysP s pages ↔ x ∈ (psP pages).flatMap (pgTwo s) := by
  have hasc : ((psP pages).flatMap (pgTwo s)).Pairwise (· < ·) := by
    rw [List.pairwise_flatMap]
    refine ⟨fun a ha => by simp [pgTwo]; omega, ?_⟩
    have : (psP pages).Pairwise (· < ·) := (by decide : [(0 : Int), 1, 2, 3, 4, 5, 6, 7].Pairwise (· < ·)).filter _
    refine (List.Pairwise.imp_of_mem ?_ this)
    intro a b ha hb hab x hx y hy
    have pa := pg_in hs (ps_range a ha)
    have pb := pg_in hs (ps_range b hb)
    simp only [pgTwo, List.mem_cons, List.not_mem_nil, or_false] at hx hy
    omega
  obtain ⟨h1, h2⟩ := keys_fold (s := s) pages [] (by simp)
  have hmem : ∀ x, x ∈ keysP s pages ↔ x ∈ (psP pages).flatMap (pgTwo s) := fun x => by
    unfold keysP
    rw [h2, List.mem_flatMap, List.mem_flatMap]
    constructor
    · rintro (h | ⟨p, hp', hx⟩)
      · simp at h
      · exact ⟨p, ps_mem.2 ⟨hp p hp', hp'⟩, hx⟩
    · rintro ⟨p, hp', hx⟩
      exact .inr ⟨p, (ps_mem.1 hp').2, hx⟩
  refine ⟨hasc, ?_, hmem⟩
  have : (keysP s pages).mergeSort (fun x y => decide (x ≤ y)) = (psP pages).flatMap (pgTwo s) := by
    refine lt_ext _ _ ?_ hasc fun x => ?_
    · have h3 := sort_le (keysP s pages)
      have h4 : ((keysP s pages).mergeSort (fun x y => decide (x ≤ y))).Nodup := (List.mergeSort_perm _ _).nodup_iff.2 h1
      refine List.Pairwise.imp ?_ (List.pairwise_and_iff.2 ⟨h3, h4⟩)
      rintro a b ⟨h5, h6⟩
      omega
    · rw [(List.mergeSort_perm _ _).mem_iff, hmem]
  rw [← this, List.length_mergeSort]

end Go.Proofs.Ytjnaphhbkbigcaa
