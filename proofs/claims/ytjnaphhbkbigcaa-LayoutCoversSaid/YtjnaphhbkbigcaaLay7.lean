/-
  Runs of pages in plain Lean: package layout's way and the reference's.
-/
import Derived.Test.YtjnaphhbkbigcaaLay3
import Derived.Test.YtjnaphhbkbigcaaLay6
namespace Go.Proofs.Ytjnaphhbkbigcaa
open Go.RowKit
set_option linter.unusedVariables false
set_option linter.unusedSimpArgs false

/-- The pages that exist, ascending. -/
def psP (pages : List Int) : List Int := [0, 1, 2, 3, 4, 5, 6, 7].filter (fun p => pages.any (· == p))
theorem ps_mem {pages : List Int} {p : Int} : p ∈ psP pages ↔ (0 ≤ p ∧ p < 8) ∧ p ∈ pages := by
  unfold psP
  rw [List.mem_filter, List.any_eq_true]
  have : p ∈ ([0, 1, 2, 3, 4, 5, 6, 7] : List Int) ↔ 0 ≤ p ∧ p < 8 := by
    simp only [List.mem_cons, List.not_mem_nil, or_false]
    omega
  rw [this]
  constructor
  · rintro ⟨h1, x, hx, he⟩
    have : x = p := by simpa using he
    exact ⟨h1, by rw [← this]; exact hx⟩
  · rintro ⟨h1, h2⟩
    exact ⟨h1, p, h2, by simp⟩
theorem ps_range {pages : List Int} : ∀ x ∈ psP pages, 0 ≤ x ∧ x < 8 := fun x hx => (ps_mem.1 hx).1
theorem ps_len (pages : List Int) : (psP pages).length ≤ 8 := List.length_filter_le _ _
/-- What package layout makes of the pages first. -/
theorem ps_eq {s : Int} (h : 0 ≤ s ∧ s < 7) (pages : List Int) : Lib.compact ((pages.filter fun x => !badP s x).mergeSort (fun x y => decide (x ≤ y))) = psP pages := by
  refine lt_ext _ _ (compact_lt (sort_le _)) ((by decide : [(0 : Int), 1, 2, 3, 4, 5, 6, 7].Pairwise (· < ·)).filter _) fun x => ?_
  rw [compact_mem, (List.mergeSort_perm _ _).mem_iff, ps_mem, List.mem_filter]
  have : (!badP s x) = true ↔ 0 ≤ x ∧ x < 8 := by
    unfold badP pgP
    by_cases hx : 0 ≤ x ∧ x < 8
    · rw [if_pos (by omega)]
      simp; omega
    · rw [if_neg (by omega)]
      simp; omega
  rw [this]
  exact ⟨fun h => ⟨h.2, h.1⟩, fun h => ⟨h.2, h.1⟩⟩
/-- How many pages a run has. -/
def runN (most : Int) : Int → Nat → List Int → Nat
  | _, n, [] => n
  | prev, n, x :: l => if x = prev + 1 ∧ ((n : Int) + 1) * 2 ≤ most then runN most x (n + 1) l else n
def runsF (s most : Int) : Nat → List Int → List Sp
  | 0, _ => []
  | _ + 1, [] => []
  | f + 1, a :: l => (pgP s a, (runN most a 1 l : Int) * 2) :: runsF s most f ((a :: l).drop (runN most a 1 l))
theorem runN_ge (most : Int) : ∀ (l : List Int) (prev : Int) (n : Nat), n ≤ runN most prev n l ∧ runN most prev n l ≤ n + l.length
  | [], _, n => by simp [runN]
  | x :: l, prev, n => by
    simp only [runN, List.length_cons]
    split
    · have := runN_ge most l x (n + 1)
      omega
    · omega
/-- The reference's step. -/
def stepR (s m : Int) (acc : List Sp) (p : Int) : List Sp := match acc.getLast? with
  | some (a, n) => if a + n = pgP s p ∧ n + 2 ≤ m then acc.dropLast ++ [(a, n + 2)] else acc ++ [(pgP s p, 2)]
  | none => acc ++ [(pgP s p, 2)]
theorem stepR_snoc (s m : Int) (pre : List Sp) (a n p : Int) : stepR s m (pre ++ [(a, n)]) p = if a + n = pgP s p ∧ n + 2 ≤ m then pre ++ [(a, n + 2)] else pre ++ [(a, n)] ++ [(pgP s p, 2)] := by
  unfold stepR
  simp
theorem pg_in {s p : Int} (h : 0 ≤ s ∧ s < 7) (hp : 0 ≤ p ∧ p < 8) : pgP s p = s * 18 + 2 + p * 2 := by
  unfold pgP
  rw [if_pos ⟨h.1, h.2, hp.1, hp.2⟩]
theorem runs_step {s most : Int} (h : 0 ≤ s ∧ s < 7) (hm : 2 ≤ most) : ∀ (l : List Int) (pre : List Sp) (a : Int) (k f : Nat), 1 ≤ k → 0 ≤ a → a + k ≤ 8 → (∀ x ∈ l, 0 ≤ x ∧ x < 8) → l.length ≤ f →
    l.foldl (stepR s (most / 2 * 2)) (pre ++ [(pgP s a, 2 * (k : Int))]) = pre ++ (pgP s a, (runN most (a + k - 1) k l : Int) * 2) :: runsF s most f (l.drop (runN most (a + k - 1) k l - k))
  | [], pre, a, k, f, h1, h2, h3, h4, h5 => by
    simp only [List.foldl_nil, runN, Nat.sub_self, List.drop_nil]
    rw [Int.mul_comm 2]
    cases f <;> rfl
  | x :: l, pre, a, k, f, h1, h2, h3, h4, h5 => by
    have hx := h4 x (by simp)
    have hl : ∀ y ∈ l, 0 ≤ y ∧ y < 8 := fun y hy => h4 y (List.mem_cons_of_mem _ hy)
    have pa := pg_in h (p := a) ⟨h2, by omega⟩
    have px := pg_in h hx
    rw [List.foldl_cons, stepR_snoc]
    by_cases c : x = a + k - 1 + 1 ∧ ((k : Int) + 1) * 2 ≤ most
    · rw [if_pos (by rw [pa, px]; omega)]
      have ih := runs_step h hm l pre a (k + 1) f (by omega) h2 (by omega) hl (by simp only [List.length_cons] at h5; omega)
      have e : runN most (a + k - 1) k (x :: l) = runN most (a + (k + 1 : Nat) - 1) (k + 1) l := by
        simp only [runN]
        rw [if_pos c, show x = a + ((k + 1 : Nat) : Int) - 1 by omega]
      rw [e, show 2 * (k : Int) + 2 = 2 * ((k + 1 : Nat) : Int) by omega, ih]
      have hge := (runN_ge most l (a + (k + 1 : Nat) - 1) (k + 1)).1
      congr 3
      rw [show runN most (a + (k + 1 : Nat) - 1) (k + 1) l - k = (runN most (a + (k + 1 : Nat) - 1) (k + 1) l - (k + 1)) + 1 by omega, List.drop_succ_cons]
    · rw [if_neg (by rw [pa, px]; omega)]
      obtain ⟨f, rfl⟩ : ∃ g, f = g + 1 := ⟨f - 1, by simp only [List.length_cons] at h5; omega⟩
      have ih := runs_step h hm l (pre ++ [(pgP s a, 2 * (k : Int))]) x 1 f (by omega) hx.1 (by omega) hl (by simp only [List.length_cons] at h5; omega)
      have e : runN most (a + k - 1) k (x :: l) = k := by
        simp only [runN]
        rw [if_neg c]
      rw [e, Nat.sub_self, List.drop_zero]
      simp only [runsF]
      have e2 : x + ((1 : Nat) : Int) - 1 = x := by omega
      rw [e2] at ih
      have h22 : (2 : Int) * ((1 : Nat) : Int) = 2 := by omega
      rw [h22] at ih
      rw [ih, Int.mul_comm 2]
      have hge := (runN_ge most l x 1).1
      simp only [List.append_assoc, List.cons_append, List.nil_append]
      congr 4
      rw [show runN most x 1 l = (runN most x 1 l - 1) + 1 by omega, List.drop_succ_cons, Nat.add_sub_cancel]
/-- The runs of pages. -/
def runsP (s : Int) (pages : List Int) (most : Int) : List Sp := if 0 ≤ s ∧ s < 7 ∧ 2 ≤ most then runsF s most 8 (psP pages) else []
theorem runs_eq {s most : Int} (h : 0 ≤ s ∧ s < 7) (hm : 2 ≤ most) (pages : List Int) : (psP pages).foldl (stepR s (most / 2 * 2)) [] = runsP s pages most := by
  unfold runsP
  rw [if_pos ⟨h.1, h.2, hm⟩]
  have hr := ps_range (pages := pages)
  have hl := ps_len pages
  generalize psP pages = ps at hr hl
  match ps, hr, hl with
  | [], _, _ => rfl
  | a :: l, hr, hl =>
    have ha := hr a (by simp)
    have := runs_step h hm l [] a 1 7 (by omega) ha.1 (by omega) (fun x hx => hr x (List.mem_cons_of_mem _ hx)) (by simp only [List.length_cons] at hl; omega)
    rw [show a + ((1 : Nat) : Int) - 1 = a by omega, show (2 : Int) * ((1 : Nat) : Int) = 2 by omega] at this
    rw [List.foldl_cons, show stepR s (most / 2 * 2) [] a = [] ++ [(pgP s a, 2)] from rfl, this]
    have hge := (runN_ge most l a 1).1
    simp only [runsF, List.nil_append]
    congr 2
    rw [show runN most a 1 l = (runN most a 1 l - 1) + 1 by omega, List.drop_succ_cons, Nat.add_sub_cancel]
theorem runsF_len (s most : Int) : ∀ (f : Nat) (l : List Int), (runsF s most f l).length ≤ f
  | 0, _ => by simp [runsF]
  | f + 1, [] => by simp [runsF]
  | f + 1, a :: l => by
    have := runsF_len s most f ((a :: l).drop (runN most a 1 l))
    simp only [runsF, List.length_cons]
    omega

end Go.Proofs.Ytjnaphhbkbigcaa
